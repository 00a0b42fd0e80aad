/- The law TreesPlays: the walk. -/
import Derived.Test.YtkjfiofefndgkaaTZ
import Derived.Test.YtkjfiofefndgkaaTO
import Derived.StillTailTactics
namespace Go.Proofs.Ytkjfiofefndgkaa
set_option linter.unusedVariables false
set_option linter.unusedSimpArgs false
open Go.RowKit
open Go.ChangeMaps (setBlock)

theorem Both.drew {B : Nat} {fix : List (Nat × Obj)} {t m r : Nat} {A R : Tab} {w : World} (h : Both B fix t m r A R w) : Both B fix t m r A R w.drew := h.drewN 1

def PlaysRel (B t m r : Nat) (W : World) (k : Nat) (w : World) : Prop :=
  ∃ A R, Both B [] t m r A R w ∧ Sim A R ∧ Low k A ∧ R.length ≤ k ∧ Below B W w ∧ B ≤ w.heap.size

theorem Both.row {B : Nat} {fix : List (Nat × Obj)} {t m r : Nat} {A R : Tab} {w : World} (h : Both B fix t m r A R w) :
    ∃ a c, w.cell? ⟨r, 0, none⟩ = some (.slice a R.length c) ∧ Hid (∀ j, j < R.length → ∃ g q, a = some ⟨g, 0, none⟩ ∧ R[j]? = some q ∧ w.cell? ⟨g, j * 3, none⟩ = some (.int .i64 q.1) ∧ w.cell? ⟨g, j * 3 + 1, none⟩ = some (.string q.2.1) ∧ w.cell? ⟨g, j * 3 + 2, none⟩ = some (.int .i64 q.2.2) ∧ R.length ≤ c ∧ c ≤ maxLen ∧ g < w.heap.size) := by
  obtain ⟨o1, o2, h1, h2, hd, hb, hf⟩ := h
  obtain ⟨v, k1, k2, k3⟩ := h2.ex
  have hv : ∃ a c, v = .slice a R.length c := by
    rcases k2.2 with ⟨e, h0⟩ | ⟨g, cap, cur, e, _⟩
    · exact ⟨_, 0, by rw [e, h0]⟩
    · exact ⟨_, _, e⟩
  obtain ⟨a, c, rfl⟩ := hv
  refine ⟨a, c, cell_of_one k1, fun j hj => ?_⟩
  obtain ⟨g, cap, q, e, hq, c0, c1, c2, hcap, hmax⟩ := row_cells k2 hj
  simp only [Value.slice.injEq, true_and] at e
  obtain ⟨rfl, rfl⟩ := e
  exact ⟨g, q, rfl, hq, c0, c1, c2, hcap, hmax, (k2.lt g rfl).2⟩

theorem ints_row {w : World} {base n : Nat} {v : Value} {xs : List Int} (h : w.ownsRow base 2 1 v n (xs.map encZ)) (hn : n = xs.length) :
    ∃ a c, v = .slice a n c ∧ Hid (∀ j q, xs[j]? = some q → ∃ g, a = some ⟨g, 0, none⟩ ∧ w.cell? ⟨g, j, none⟩ = some (.int .i64 q) ∧ n ≤ c ∧ c ≤ maxLen ∧ g < w.heap.size) := by
  rcases h.2 with ⟨rfl, h0⟩ | ⟨g, cap, cur, rfl, hg, hh, h1, h2, h3, h4⟩
  · refine ⟨none, 0, by rw [h0], fun j q hq => ?_⟩
    have := (List.getElem?_eq_some_iff.1 hq).1
    omega
  · refine ⟨_, _, rfl, fun j q hq => ⟨g, rfl, ?_, h1, h2, lt_of_block hh⟩⟩
    have hj := (List.getElem?_eq_some_iff.1 hq).1
    have e : (xs.map encZ)[j]? = some (.int .i64 q) := by rw [List.getElem?_map, hq]; rfl
    rw [← h4, List.getElem?_take_of_lt (by omega)] at e
    simp [World.cell?, hh]
    simpa using e

theorem plays_next {B t m r k : Nat} {W w : World} {A R : Tab} (h : Both B [] t m r A R w) (h1 : Sim A R) (h2 : Low (k + 1 : Nat) A) (h3 : R.length ≤ k + 1) (h4 : Below B W w) (h5 : B ≤ w.heap.size) : PlaysRel B t m r W (k + 1) w := ⟨A, R, h, h1, h2, h3, h4, h5⟩
theorem busy_no {t : Nat} {n : Int} {w : World} (h : Calls Try.prog 12 #[.pointer (some ⟨t, 0, none⟩), .int .i64 n] w fun e w' => e = .returned (.bool (none : Option (ByteArray × Int)).isSome) ∧ w = w') :
    Hid (Calls Try.prog 12 #[.pointer (some ⟨t, 0, none⟩), .int .i64 n] w fun e w' => e = .returned (.bool false) ∧ w = w') := h

theorem got_form (A : Tab) (n : Int) (p : ByteArray) : ∃ b e, gotR A n p = .tuple #[.bool b, .int .i64 e] := by
  unfold gotR
  split
  · exact ⟨_, _, rfl⟩
  · split
    · exact ⟨_, _, rfl⟩
    · split <;> exact ⟨_, _, rfl⟩
theorem rest_form (A : Tab) (n : Int) : ∃ p b, restR A n = .tuple #[.string p, .bool b] := by
  unfold restR
  split
  · exact ⟨_, _, rfl⟩
  · split
    · split <;> exact ⟨_, _, rfl⟩
    · exact ⟨_, _, rfl⟩
theorem low_row {k : Nat} {A R : Tab} (h : Sim A R) (hl : Low k A) (hk : k ≤ 60) : ∀ (i : Nat) (q : Int × ByteArray × Int), R[i]? = some q → 0 ≤ q.2.2 ∧ q.2.2 < 4611686018427387904 := by
  intro i q hq
  have hg : alGet A q.1 = some q.2 := by rw [h.same]; exact get_of_mem h.up (List.mem_of_getElem? hq)
  have := hl q.1 q.2.1 q.2.2 hg
  omega
theorem low_got {k : Int} {A : Tab} (h : Low k A) (hk : 0 ≤ k) (n : Int) (p : ByteArray) : Low (k + 1) (gotA A n p) := by
  unfold gotA
  split
  · exact h.mono (by omega)
  · split
    · exact h.mono (by omega)
    · split
      · exact h.mono (by omega)
      · rename_i hn
        intro j p' d hg
        rw [get_snoc A n _ j (by simpa using hn)] at hg
        by_cases e : j = n
        · rw [if_pos e] at hg
          simp only [Option.some.injEq, Prod.mk.injEq] at hg; omega
        · rw [if_neg e] at hg
          have := h _ _ _ hg; omega

def Mid (B : Nat) (fix : List (Nat × Obj)) (t m r : Nat) (W : World) (k : Nat) (w : World) : Prop :=
  ∃ A R, Both B fix t m r A R w ∧ Sim A R ∧ Low (k + 1) A ∧ R.length ≤ k + 1 ∧ Below B W w

theorem below_drew_left {B : Nat} {a b : World} (h : Below B a.drew b) : Below B a b := ⟨h.os, h.tape, h.output, h.size, h.block⟩

set_option maxHeartbeats 40000000 in
set_option maxRecDepth 100000 in
theorem TreesPlays_any (A : Option Addr) (len cap : Nat) (z : Nat → Int × Int × ByteArray) (W : World) (hr : ActRow W A len cap z) :
    Calls Try.prog 5 #[.slice A len cap] W (BoolPost W true) := by
  have HR := Lib.hid hr; clear hr
  go_enter Try.func5, Try.ntmps5
  go_wp2_with fail
  refine (New_in W).mono ?_
  rintro e w1 ⟨rfl, hb1, own1, hi1, ho1⟩
  go_wp2_with fail
  have hb2 : Both W.heap.size [] (W.heap.size + 1) W.heap.size w1.heap.size [] [] (w1.alloc (.cells #[.slice none 0 0] 43)) := by
    refine ⟨own1, fun k => k = w1.heap.size, hi1.below ((Below.refl _ w1).alloc (Nat.le_refl _) _), ⟨⟨.slice none 0 0, at_new _ _, ⟨rfl, Or.inl ⟨rfl, rfl⟩⟩, fun k hk => by simp [Value.ownBlock] at hk⟩, rfl, fun k hk => by rw [hk]; simp⟩, fun k hk e => ?_, fun k hk => ?_, (fun p hp => by cases hp)⟩
    · have := hi1.lt k hk; omega
    · rcases hk with hk | hk
      · exact ho1 k hk
      · rw [hk]; exact hb1.size
  have hbl : Below W.heap.size W (w1.alloc (.cells #[.slice none 0 0] 43)) := hb1.alloc hb1.size _
  refine (wakes_any _).mono ?_
  rintro e w2 ⟨rfl, hbw⟩
  replace hb2 := hb2.below hbw
  replace hbl := hbl.trans (hbw.mono hbl.size)
  obtain ⟨B, hB⟩ : ∃ B, B = W.heap.size := ⟨_, rfl⟩
  obtain ⟨t, ht⟩ : ∃ t, t = W.heap.size + 1 := ⟨_, rfl⟩
  obtain ⟨r, hr⟩ : ∃ r, r = w1.heap.size := ⟨_, rfl⟩
  rw [← ht, ← hr] at hb2 ⊢
  rw [← hB] at hb2 hbl
  obtain ⟨m, hm⟩ : ∃ m, m = B := ⟨_, rfl⟩
  have hb2' : Both B [] t m r [] [] w2 := by rw [hm]; exact hb2
  have HB := Lib.hid hB
  clear hB ht hr hm hb2 hb1 hi1 ho1 hbw
  obtain ⟨q1, q2, q3⟩ := HR.out
  obtain ⟨n, hn, hnm, hn1, hn2, hn3⟩ : ∃ n : Nat, min (len : Int) 60 = (n : Int) ∧ max (n : Int) 0 = (n : Int) ∧ n ≤ len ∧ n ≤ 60 ∧ n ≤ cap := by
    by_cases h : (60 : Int) < (len : Int)
    · exact ⟨60, by omega, by omega, by omega, by omega, by omega⟩
    · exact ⟨len, by omega, by omega, by omega, by omega, by omega⟩
  unfold maxLen at q2
  have Q3 := Lib.hid q3; clear q3
  have HS : Hid (PlaysRel B t m r W 0 w2) := ⟨[], [], hb2', Sim.nil, (fun n p d h => by cases h), Nat.le_refl _, hbl, by rw [HB.out]; exact hbl.size⟩
  clear hb2' hbl
  go_wp2_with fail
  clear hn hnm
  go_loopw [30] (fun i wr => ∃ k : Nat, k ≤ n ∧ i = .int .i64 k ∧ PlaysRel B t m r W k wr) (fun i _ => n - (intOf i).toNat)
  case atStart => exact ⟨0, Nat.zero_le _, rfl, HS.out⟩
  case round =>
    clear HS
    obtain ⟨k, hkn, rfl, A1, R1, htw, hsim, hlow, hlen, hbl, hBw⟩ := hrel
    by_cases hlt : k < n
    · have hlen0 : len ≠ 0 := by omega
      obtain ⟨g, o, rfl, hg, hz⟩ := Q3.out.resolve_left hlen0
      obtain ⟨z0, z1, z2, b0, b1, b2⟩ := hz k (by omega)
      obtain ⟨D, hD⟩ : ∃ D, D = (z k).1 := ⟨_, rfl⟩
      obtain ⟨Tk, hTk⟩ : ∃ Tk, Tk = (z k).2.1 := ⟨_, rfl⟩
      obtain ⟨Fr, hFr⟩ : ∃ Fr, Fr = (z k).2.2 := ⟨_, rfl⟩
      rw [← hD] at z0 b0; rw [← hTk] at z1 b1; rw [← hFr] at z2 b2
      clear hD hTk hFr hz
      have hgB : g < B := by rw [HB.out]; exact hg
      replace z0 := (hbl.cell (p := ⟨g, o + k * 3, none⟩) hgB).trans z0
      replace z1 := (hbl.cell (p := ⟨g, o + (k * 3 + 1), none⟩) hgB).trans z1
      replace z2 := (hbl.cell (p := ⟨g, o + (k * 3 + 2), none⟩) hgB).trans z2
      have y1 : wr.cell? ⟨g, o + k * 3 + 1, none⟩ = some (.int .i64 Tk) := z1
      have y2 : wr.cell? ⟨g, o + k * 3 + 2, none⟩ = some (.string Fr) := z2
      have B1 := Lib.hid b1; clear b0 b1
      obtain ⟨fl, hfl, hfl1, hfl2⟩ : ∃ fl : Nat, min (Fr.size : Int) 20 = (fl : Int) ∧ fl ≤ Fr.size ∧ fl ≤ 20 := by
        by_cases h : (20 : Int) < (Fr.size : Int)
        · exact ⟨20, by omega, by omega, by omega⟩
        · exact ⟨Fr.size, by omega, by omega, by omega⟩
      have hd6 := tmod_six D
      obtain ⟨mm, hm⟩ : ∃ mm, mm = D.tmod 6 := ⟨_, rfl⟩
      rw [← hm] at hd6
      obtain ⟨c, hc, hc6⟩ : ∃ c : Nat, (mm + 6) % 6 = (c : Int) ∧ c < 6 := ⟨((mm + 6) % 6).toNat, by omega, by omega⟩
      have hm' := hm.symm
      clear hm
      obtain ⟨F, hF⟩ : ∃ F, F = Fr.extract 0 fl := ⟨_, rfl⟩
      have hF2 : F.size ≤ 20 := by rw [hF]; simp; omega
      have hF' := hF.symm
      clear hF
      obtain ⟨bx, hbx⟩ : ∃ bx, bx = wr.heap.size := ⟨_, rfl⟩
      have HBX := Lib.hid hbx
      obtain ⟨w0, hw0⟩ : ∃ w0, w0 = wr.alloc (.cells #[.int .i64 D, .int .i64 Tk, .string F] 45) := ⟨_, rfl⟩
      have F2 : Both B [(bx, .cells #[.int .i64 D, .int .i64 Tk, .string F] 45 (0, 0))] t m r A1 R1 w0 := by rw [hw0, hbx]; exact htw.alloc _
      have hb1 : Below B W w0 := by rw [hw0]; exact hbl.alloc hBw _
      have hB0 : B ≤ w0.heap.size := Nat.le_trans (by rw [HB.out]; exact Nat.le_refl _) hb1.size
      have HW0 := Lib.hid hw0
      clear hw0 hbx htw
      have HZ : Hid (∀ A R w, Both B [(bx, .cells #[.int .i64 D, .int .i64 Tk, .string F] 45 (0, 0))] t m r A R w → w.cell? ⟨bx, 0, none⟩ = some (.int .i64 D) ∧ w.cell? ⟨bx, 1, none⟩ = some (.int .i64 Tk) ∧ w.cell? ⟨bx, 2, none⟩ = some (.string F)) := by
        intro A R w h
        have := h.at (List.mem_singleton.2 rfl)
        exact ⟨cells_at this 0, cells_at this 1, cells_at this 2⟩
      have hlow' := low_get hlow (by omega) Tk
      have HLO := Lib.hid hlow'; clear hlow'
      have HLR := Lib.hid (low_row hsim hlow (by omega))
      have hcc : c = 0 ∨ c = 1 ∨ c = 2 ∨ c = 3 ∨ c = 4 ∨ c = 5 := by omega
      rcases hcc with rfl | rfl | rfl | rfl | rfl | rfl
      · as_aux_lemma =>
        have hc0 : (mm + 6) % 6 = 0 := by simpa using hc
        clear hc
        have HKA : Hid (∀ w, Both B [(bx, .cells #[.int .i64 D, .int .i64 Tk, .string F] 45 (0, 0))] t m r A1 R1 w → B ≤ w.heap.size → Calls Try.prog 9 #[.pointer (some ⟨t, 0, none⟩), .int .i64 Tk] w fun e w' => e = .returned (.int .i64 (startR A1 Tk)) ∧ Both B [(bx, .cells #[.int .i64 D, .int .i64 Tk, .string F] 45 (0, 0))] t m r (startA A1 Tk) R1 w' ∧ Below B w w') := fun w h hb => h.callA hb (fun own h => start_in h Tk)
        have HKR : Hid (∀ A w, Both B [(bx, .cells #[.int .i64 D, .int .i64 Tk, .string F] 45 (0, 0))] t m r A R1 w → B ≤ w.heap.size → Calls Try.prog 13 #[.pointer (some ⟨r, 0, none⟩), .int .i64 Tk] w fun e w' => e = .returned (.int .i64 (rstartR R1 Tk)) ∧ Both B [(bx, .cells #[.int .i64 D, .int .i64 Tk, .string F] 45 (0, 0))] t m r A (rstartA R1 Tk) w' ∧ Below B w w') := fun A w h hb => h.callR hb (fun own h => rstart_in h Tk (by omega))
        have hS := hsim.start Tk
        have hE : (startR A1 Tk == rstartR R1 Tk) = true := by rw [hS.1]; simp
        have HMid : Hid (∀ w w', Both B [(bx, .cells #[.int .i64 D, .int .i64 Tk, .string F] 45 (0, 0))] t m r (startA A1 Tk) (rstartA R1 Tk) w' → Below B w0 w → Below B w w' → Mid B [(bx, .cells #[.int .i64 D, .int .i64 Tk, .string F] 45 (0, 0))] t m r W k w') := fun w w' h h1 h2 => ⟨_, _, h, hS.2.1, hlow.op (by omega) 0 Tk, by omega, (hb1.trans h1).trans h2⟩
        clear hS
        go_wp2_with fail
        rw [← HBX.out, ← HW0.out]
        obtain ⟨k0, k1, k2⟩ := HZ.out _ _ _ F2
        go_region_with (first
          | (go_at_call 9; refine (HKA.out _ (by first | exact F2 | exact F2.drew) (by assumption)).mono ?_; rintro e w3 ⟨rfl, F3, hb3⟩; have hB3 := Nat.le_trans hB0 hb3.size; obtain ⟨l0, l1, l2⟩ := HZ.out _ _ _ F3)
          | (go_at_call 13; refine (HKR.out _ _ (by assumption) (by assumption)).mono ?_; rintro e w4 ⟨rfl, F4, hb4⟩))
        all_goals
          have HM4 := HMid.out _ _ F4 (by first | exact hb3 | exact below_drew_left hb3) hb4
          clear HMid HKA HKR F2 F3 F4 hb3 hb4 k0 k1 k2 l0 l1 l2 hE hc0
          obtain ⟨A2, R2, tw, hs2, hl2, hn2, hbl2⟩ := HM4
          have hB4 : B ≤ w4.heap.size := Nat.le_trans (by rw [HB.out]; exact Nat.le_refl _) hbl2.size
          have HO := Lib.hid (tw.askA (fun own h => open_in h hs2 (by omega)))
          go_wp2_with (go_at_call 23; refine HO.out.mono ?_; rintro e w5 ⟨v, rfl, hrow, hb5⟩; obtain ⟨a5, c5, rfl, HL5⟩ := ints_row hrow (by simp); have tw5 := tw.below hb5; obtain ⟨ra, rc, kr, HRW⟩ := tw5.row; have hbl5 : Below B W w5 := hbl2.trans (hb5.mono hB4))
          have TW5 := Lib.hid tw5
          clear tw hrow hb5 hbl2 HO tw5
          go_loopw [156] (fun i wi => ∃ j : Nat, j ≤ R2.length ∧ i = .int .i64 j ∧ Below w5.heap.size w5 wi) (fun i _ => R2.length - (intOf i).toNat)
          case atStart => exact ⟨0, Nat.zero_le _, rfl, Below.refl _ _⟩
          case round =>
            obtain ⟨j, hj, rfl, hbi⟩ := hrel
            have tw6 := TW5.out.below hbi
            by_cases hjl : j < R2.length
            · obtain ⟨gr, q, rfl, hq, e0, e1, e2, hrc, hrm, hgr⟩ := HRW.out j hjl
              obtain ⟨gl, rfl, d0, hlc, hlm, hgl⟩ := HL5.out j q.1 (by rw [List.getElem?_map, hq]; rfl)
              unfold maxLen at hrm hlm
              replace e0 := (hbi.cell (p := ⟨gr, j * 3, none⟩) hgr).trans e0
              replace e1 := (hbi.cell (p := ⟨gr, j * 3 + 1, none⟩) hgr).trans e1
              replace e2 := (hbi.cell (p := ⟨gr, j * 3 + 2, none⟩) hgr).trans e2
              replace d0 := (hbi.cell (p := ⟨gl, j, none⟩) hgl).trans d0
              have hgq : alGet A2 q.1 = some q.2 := by rw [hs2.same]; exact get_of_mem hs2.up (List.mem_of_getElem? hq)
              have hmay : mayB q.1 = true := by
                cases e : mayB q.1 with
                | true => rfl
                | false => have := hs2.may _ e; rw [← hs2.same, hgq] at this; cases this
              have hwf := wf_of_may hmay
              have HBu : Hid (∀ fx w, Both B fx t m r A2 R2 w → Calls Try.prog 12 #[.pointer (some ⟨t, 0, none⟩), .int .i64 q.1] w fun e w' => e = .returned (.bool true) ∧ w = w') := by
                intro fx w h
                have := h.askA (fun own h => busy_in h q.1 hwf)
                rw [hgq] at this; exact this
              have HDe : Hid (∀ fx w, Both B fx t m r A2 R2 w → Calls Try.prog 24 #[.pointer (some ⟨t, 0, none⟩), .int .i64 q.1] w fun e w' => e = .returned (.int .i64 q.2.2) ∧ w = w') := by
                intro fx w h
                have := h.askA (fun own h => deficit_in h q.1 hwf)
                unfold deficitR at this
                rw [hgq] at this; exact this
              have tw7 := tw6.below ((Below.refl _ _).alloc (Nat.le_refl _) (.cells #[.int .i64 q.1, .string q.2.1, .int .i64 q.2.2] 57))
              have hbi' := hbi.alloc hbi.size (.cells #[.int .i64 q.1, .string q.2.1, .int .i64 q.2.2] 57)
              have d1 := (((Below.refl _ _).alloc (Nat.le_refl _) (.cells #[.int .i64 q.1, .string q.2.1, .int .i64 q.2.2] 57)).cell (p := ⟨gl, j, none⟩) (Nat.lt_of_lt_of_le hgl hbi.size)).trans d0
              clear hq hgq hmay hwf
              go_wp2_with fail
              go_quiet (first
                | (go_at_call 12; refine Calls.quiet_of_same ((HBu.out _ _ (tw7.drewN _)).mono fun e w' h => ⟨h.1, h.2.symm⟩))
                | (go_at_call 24; refine Calls.quiet_of_same ((HDe.out _ _ (tw7.drewN _)).mono fun e w' h => ⟨h.1, h.2.symm⟩)))
              go_wp2_with fail
              go_roundw
              case rel => exact ⟨j + 1, by omega, by go_num, below_drewN hbi' nq⟩
              case measure => simp [intOf]; omega
            · obtain rfl : j = R2.length := by omega
              obtain ⟨k0, k1, k2⟩ := HZ.out _ _ _ tw6
              have hB5 := Nat.le_trans (show B ≤ W.heap.size by rw [HB.out]; exact Nat.le_refl _) hbl5.size
              have HN := Lib.hid (plays_next (tw6.fewer (fun p hp => by cases hp)) hs2 (hl2.mono (by omega)) hn2 (hbl5.trans (hbi.mono hB5)) (Nat.le_trans hB5 hbi.size))
              by_cases hf : findIx R2 Tk < R2.length
              · have HF := Lib.hid (tw6.askR (fun own h => find_there h Tk (by omega) hf))
                obtain ⟨f, hf'⟩ : ∃ f, f = findIx R2 Tk := ⟨_, rfl⟩
                rw [← hf'] at HF hf
                clear hf' tw6
                go_wp2_with (go_at_call 25; refine HF.out.mono ?_; rintro e w' ⟨rfl, rfl⟩)
                go_roundw
                case rel => exact ⟨k + 1, by omega, by go_num, HN.out⟩
                case measure => simp [intOf]; omega
              · have HF := Lib.hid (tw6.askR (fun own h => find_none h Tk (by omega) hf))
                have hg : alGet A2 Tk = none := by
                  have : ¬ (alGet A2 Tk).isSome = true := fun e => hf ((hs2.there Tk).2 e)
                  simpa using this
                have HBu := tw6.askA (fun own h => busy_in h Tk B1.out)
                have HDe := tw6.askA (fun own h => deficit_in h Tk B1.out)
                unfold deficitR at HDe
                rw [hg] at HBu HDe
                have HBu2 := busy_no HBu
                have HDe2 := Lib.hid HDe
                clear HBu HDe tw6 hf hg
                go_wp2_with (first
                  | (go_at_call 25; refine HF.out.mono ?_; rintro e w' ⟨rfl, rfl⟩)
                  | (go_at_call 12; refine HBu2.out.mono ?_; rintro e w' ⟨rfl, rfl⟩)
                  | (go_at_call 24; refine HDe2.out.mono ?_; rintro e w' ⟨rfl, rfl⟩))
                go_roundw
                case rel => exact ⟨k + 1, by omega, by go_num, HN.out⟩
                case measure => simp [intOf]; omega
      · as_aux_lemma =>
        have hc0 : (mm + 6) % 6 = 1 := by simpa using hc
        clear hc
        have hS := hsim.got Tk F
        obtain ⟨gb, ge, hx1⟩ := got_form A1 Tk F
        have hx2 := hS.1.symm.trans hx1
        have HKA : Hid (∀ w, Both B [(bx, .cells #[.int .i64 D, .int .i64 Tk, .string F] 45 (0, 0))] t m r A1 R1 w → B ≤ w.heap.size → Calls Try.prog 14 #[.pointer (some ⟨t, 0, none⟩), .int .i64 Tk, .string F] w fun e w' => e = .returned (.tuple #[.bool gb, .int .i64 ge]) ∧ Both B [(bx, .cells #[.int .i64 D, .int .i64 Tk, .string F] 45 (0, 0))] t m r (gotA A1 Tk F) R1 w' ∧ Below B w w') := fun w h hb => h.callA hb (fun own h => by rw [← hx1]; exact got_in h Tk F (by omega))
        have HKR : Hid (∀ A w, Both B [(bx, .cells #[.int .i64 D, .int .i64 Tk, .string F] 45 (0, 0))] t m r A R1 w → B ≤ w.heap.size → Calls Try.prog 15 #[.pointer (some ⟨r, 0, none⟩), .int .i64 Tk, .string F] w fun e w' => e = .returned (.tuple #[.bool gb, .int .i64 ge]) ∧ Both B [(bx, .cells #[.int .i64 D, .int .i64 Tk, .string F] 45 (0, 0))] t m r A (rgotA R1 Tk F) w' ∧ Below B w w') := fun A w h hb => h.callR hb (fun own h => by rw [← hx2]; exact rgot_in h Tk F (by omega) (by omega))
        have HMid : Hid (∀ w w', Both B [(bx, .cells #[.int .i64 D, .int .i64 Tk, .string F] 45 (0, 0))] t m r (gotA A1 Tk F) (rgotA R1 Tk F) w' → Below B w0 w → Below B w w' → Mid B [(bx, .cells #[.int .i64 D, .int .i64 Tk, .string F] 45 (0, 0))] t m r W k w') := fun w w' h h1 h2 => ⟨_, _, h, hS.2.1, low_got hlow (by omega) Tk F, by omega, (hb1.trans h1).trans h2⟩
        clear hS hx1 hx2
        obtain ⟨k0, k1, k2⟩ := HZ.out _ _ _ F2
        go_wp2_with (first
          | (go_at_call 14; rw [← HBX.out, ← HW0.out]; refine (HKA.out _ F2 hB0).mono ?_; rintro e w3 ⟨rfl, F3, hb3⟩; have hB3 := Nat.le_trans hB0 hb3.size; obtain ⟨l0, l1, l2⟩ := HZ.out _ _ _ F3)
          | (go_at_call 15; refine (HKR.out _ _ F3 hB3).mono ?_; rintro e w4 ⟨rfl, F4, hb4⟩; have HM4 := HMid.out _ _ F4 hb3 hb4; clear HMid HKA HKR F2 F3 F4 hb3 hb4 k0 k1 k2 l0 l1 l2 hc0; obtain ⟨A2, R2, tw, hs2, hl2, hn2, hbl2⟩ := HM4; have hB4 : B ≤ w4.heap.size := Nat.le_trans (by rw [HB.out]; exact Nat.le_refl _) hbl2.size; have HO := Lib.hid (tw.askA (fun own h => open_in h hs2 (by omega))))
          | (go_at_call 23; refine HO.out.mono ?_; rintro e w5 ⟨v, rfl, hrow, hb5⟩; obtain ⟨a5, c5, rfl, HL5⟩ := ints_row hrow (by simp); have tw5 := tw.below hb5; obtain ⟨ra, rc, kr, HRW⟩ := tw5.row; have hbl5 : Below B W w5 := hbl2.trans (hb5.mono hB4)))
        have TW5 := Lib.hid tw5
        clear tw hrow hb5 hbl2 HO tw5
        go_loopw [156] (fun i wi => ∃ j : Nat, j ≤ R2.length ∧ i = .int .i64 j ∧ Below w5.heap.size w5 wi) (fun i _ => R2.length - (intOf i).toNat)
        case atStart => exact ⟨0, Nat.zero_le _, rfl, Below.refl _ _⟩
        case round =>
          obtain ⟨j, hj, rfl, hbi⟩ := hrel
          have tw6 := TW5.out.below hbi
          by_cases hjl : j < R2.length
          · obtain ⟨gr, q, rfl, hq, e0, e1, e2, hrc, hrm, hgr⟩ := HRW.out j hjl
            obtain ⟨gl, rfl, d0, hlc, hlm, hgl⟩ := HL5.out j q.1 (by rw [List.getElem?_map, hq]; rfl)
            unfold maxLen at hrm hlm
            replace e0 := (hbi.cell (p := ⟨gr, j * 3, none⟩) hgr).trans e0
            replace e1 := (hbi.cell (p := ⟨gr, j * 3 + 1, none⟩) hgr).trans e1
            replace e2 := (hbi.cell (p := ⟨gr, j * 3 + 2, none⟩) hgr).trans e2
            replace d0 := (hbi.cell (p := ⟨gl, j, none⟩) hgl).trans d0
            have hgq : alGet A2 q.1 = some q.2 := by rw [hs2.same]; exact get_of_mem hs2.up (List.mem_of_getElem? hq)
            have hmay : mayB q.1 = true := by
              cases e : mayB q.1 with
              | true => rfl
              | false => have := hs2.may _ e; rw [← hs2.same, hgq] at this; cases this
            have hwf := wf_of_may hmay
            have HBu : Hid (∀ fx w, Both B fx t m r A2 R2 w → Calls Try.prog 12 #[.pointer (some ⟨t, 0, none⟩), .int .i64 q.1] w fun e w' => e = .returned (.bool true) ∧ w = w') := by
              intro fx w h
              have := h.askA (fun own h => busy_in h q.1 hwf)
              rw [hgq] at this; exact this
            have HDe : Hid (∀ fx w, Both B fx t m r A2 R2 w → Calls Try.prog 24 #[.pointer (some ⟨t, 0, none⟩), .int .i64 q.1] w fun e w' => e = .returned (.int .i64 q.2.2) ∧ w = w') := by
              intro fx w h
              have := h.askA (fun own h => deficit_in h q.1 hwf)
              unfold deficitR at this
              rw [hgq] at this; exact this
            have tw7 := tw6.below ((Below.refl _ _).alloc (Nat.le_refl _) (.cells #[.int .i64 q.1, .string q.2.1, .int .i64 q.2.2] 57))
            have hbi' := hbi.alloc hbi.size (.cells #[.int .i64 q.1, .string q.2.1, .int .i64 q.2.2] 57)
            have d1 := (((Below.refl _ _).alloc (Nat.le_refl _) (.cells #[.int .i64 q.1, .string q.2.1, .int .i64 q.2.2] 57)).cell (p := ⟨gl, j, none⟩) (Nat.lt_of_lt_of_le hgl hbi.size)).trans d0
            clear hq hgq hmay hwf
            go_wp2_with fail
            go_quiet (first
              | (go_at_call 12; refine Calls.quiet_of_same ((HBu.out _ _ (tw7.drewN _)).mono fun e w' h => ⟨h.1, h.2.symm⟩))
              | (go_at_call 24; refine Calls.quiet_of_same ((HDe.out _ _ (tw7.drewN _)).mono fun e w' h => ⟨h.1, h.2.symm⟩)))
            go_wp2_with fail
            go_roundw
            case rel => exact ⟨j + 1, by omega, by go_num, below_drewN hbi' nq⟩
            case measure => simp [intOf]; omega
          · obtain rfl : j = R2.length := by omega
            obtain ⟨k0, k1, k2⟩ := HZ.out _ _ _ tw6
            have hB5 := Nat.le_trans (show B ≤ W.heap.size by rw [HB.out]; exact Nat.le_refl _) hbl5.size
            have HN := Lib.hid (plays_next (tw6.fewer (fun p hp => by cases hp)) hs2 (hl2.mono (by omega)) hn2 (hbl5.trans (hbi.mono hB5)) (Nat.le_trans hB5 hbi.size))
            by_cases hf : findIx R2 Tk < R2.length
            · have HF := Lib.hid (tw6.askR (fun own h => find_there h Tk (by omega) hf))
              obtain ⟨f, hf'⟩ : ∃ f, f = findIx R2 Tk := ⟨_, rfl⟩
              rw [← hf'] at HF hf
              clear hf' tw6
              go_wp2_with (go_at_call 25; refine HF.out.mono ?_; rintro e w' ⟨rfl, rfl⟩)
              go_roundw
              case rel => exact ⟨k + 1, by omega, by go_num, HN.out⟩
              case measure => simp [intOf]; omega
            · have HF := Lib.hid (tw6.askR (fun own h => find_none h Tk (by omega) hf))
              have hg : alGet A2 Tk = none := by
                have : ¬ (alGet A2 Tk).isSome = true := fun e => hf ((hs2.there Tk).2 e)
                simpa using this
              have HBu := tw6.askA (fun own h => busy_in h Tk B1.out)
              have HDe := tw6.askA (fun own h => deficit_in h Tk B1.out)
              unfold deficitR at HDe
              rw [hg] at HBu HDe
              have HBu2 := busy_no HBu
              have HDe2 := Lib.hid HDe
              clear HBu HDe tw6 hf hg
              go_wp2_with (first
                | (go_at_call 25; refine HF.out.mono ?_; rintro e w' ⟨rfl, rfl⟩)
                | (go_at_call 12; refine HBu2.out.mono ?_; rintro e w' ⟨rfl, rfl⟩)
                | (go_at_call 24; refine HDe2.out.mono ?_; rintro e w' ⟨rfl, rfl⟩))
              go_roundw
              case rel => exact ⟨k + 1, by omega, by go_num, HN.out⟩
              case measure => simp [intOf]; omega
      · as_aux_lemma =>
        have hc0 : (mm + 6) % 6 = 2 := by simpa using hc
        clear hc
        have HKA : Hid (∀ w, Both B [(bx, .cells #[.int .i64 D, .int .i64 Tk, .string F] 45 (0, 0))] t m r A1 R1 w → B ≤ w.heap.size → Calls Try.prog 16 #[.pointer (some ⟨t, 0, none⟩), .int .i64 Tk] w fun e w' => e = .returned (.int .i64 (sentR A1 Tk)) ∧ Both B [(bx, .cells #[.int .i64 D, .int .i64 Tk, .string F] 45 (0, 0))] t m r (sentA A1 Tk) R1 w' ∧ Below B w w') := fun w h hb => h.callA hb (fun own h => sent_in h Tk HLO.out)
        have HKR : Hid (∀ A w, Both B [(bx, .cells #[.int .i64 D, .int .i64 Tk, .string F] 45 (0, 0))] t m r A R1 w → B ≤ w.heap.size → Calls Try.prog 17 #[.pointer (some ⟨r, 0, none⟩), .int .i64 Tk] w fun e w' => e = .returned (.int .i64 (rsentR R1 Tk)) ∧ Both B [(bx, .cells #[.int .i64 D, .int .i64 Tk, .string F] 45 (0, 0))] t m r A (rsentA R1 Tk) w' ∧ Below B w w') := fun A w h hb => h.callR hb (fun own h => rsent_in h Tk (by omega) HLR.out)
        have hS := hsim.sent Tk
        have hE : (sentR A1 Tk == rsentR R1 Tk) = true := by rw [hS.1]; simp
        have HMid : Hid (∀ w w', Both B [(bx, .cells #[.int .i64 D, .int .i64 Tk, .string F] 45 (0, 0))] t m r (sentA A1 Tk) (rsentA R1 Tk) w' → Below B w0 w → Below B w w' → Mid B [(bx, .cells #[.int .i64 D, .int .i64 Tk, .string F] 45 (0, 0))] t m r W k w') := fun w w' h h1 h2 => ⟨_, _, h, hS.2.1, hlow.op (by omega) 2 Tk, by omega, (hb1.trans h1).trans h2⟩
        clear hS
        go_wp2_with fail
        rw [← HBX.out, ← HW0.out]
        obtain ⟨k0, k1, k2⟩ := HZ.out _ _ _ F2
        go_region_with (first
          | (go_at_call 16; refine (HKA.out _ (by first | exact F2 | exact F2.drew) (by assumption)).mono ?_; rintro e w3 ⟨rfl, F3, hb3⟩; have hB3 := Nat.le_trans hB0 hb3.size; obtain ⟨l0, l1, l2⟩ := HZ.out _ _ _ F3)
          | (go_at_call 17; refine (HKR.out _ _ (by assumption) (by assumption)).mono ?_; rintro e w4 ⟨rfl, F4, hb4⟩))
        all_goals
          have HM4 := HMid.out _ _ F4 (by first | exact hb3 | exact below_drew_left hb3) hb4
          clear HMid HKA HKR F2 F3 F4 hb3 hb4 k0 k1 k2 l0 l1 l2 hE hc0
          obtain ⟨A2, R2, tw, hs2, hl2, hn2, hbl2⟩ := HM4
          have hB4 : B ≤ w4.heap.size := Nat.le_trans (by rw [HB.out]; exact Nat.le_refl _) hbl2.size
          have HO := Lib.hid (tw.askA (fun own h => open_in h hs2 (by omega)))
          go_wp2_with (go_at_call 23; refine HO.out.mono ?_; rintro e w5 ⟨v, rfl, hrow, hb5⟩; obtain ⟨a5, c5, rfl, HL5⟩ := ints_row hrow (by simp); have tw5 := tw.below hb5; obtain ⟨ra, rc, kr, HRW⟩ := tw5.row; have hbl5 : Below B W w5 := hbl2.trans (hb5.mono hB4))
          have TW5 := Lib.hid tw5
          clear tw hrow hb5 hbl2 HO tw5
          go_loopw [156] (fun i wi => ∃ j : Nat, j ≤ R2.length ∧ i = .int .i64 j ∧ Below w5.heap.size w5 wi) (fun i _ => R2.length - (intOf i).toNat)
          case atStart => exact ⟨0, Nat.zero_le _, rfl, Below.refl _ _⟩
          case round =>
            obtain ⟨j, hj, rfl, hbi⟩ := hrel
            have tw6 := TW5.out.below hbi
            by_cases hjl : j < R2.length
            · obtain ⟨gr, q, rfl, hq, e0, e1, e2, hrc, hrm, hgr⟩ := HRW.out j hjl
              obtain ⟨gl, rfl, d0, hlc, hlm, hgl⟩ := HL5.out j q.1 (by rw [List.getElem?_map, hq]; rfl)
              unfold maxLen at hrm hlm
              replace e0 := (hbi.cell (p := ⟨gr, j * 3, none⟩) hgr).trans e0
              replace e1 := (hbi.cell (p := ⟨gr, j * 3 + 1, none⟩) hgr).trans e1
              replace e2 := (hbi.cell (p := ⟨gr, j * 3 + 2, none⟩) hgr).trans e2
              replace d0 := (hbi.cell (p := ⟨gl, j, none⟩) hgl).trans d0
              have hgq : alGet A2 q.1 = some q.2 := by rw [hs2.same]; exact get_of_mem hs2.up (List.mem_of_getElem? hq)
              have hmay : mayB q.1 = true := by
                cases e : mayB q.1 with
                | true => rfl
                | false => have := hs2.may _ e; rw [← hs2.same, hgq] at this; cases this
              have hwf := wf_of_may hmay
              have HBu : Hid (∀ fx w, Both B fx t m r A2 R2 w → Calls Try.prog 12 #[.pointer (some ⟨t, 0, none⟩), .int .i64 q.1] w fun e w' => e = .returned (.bool true) ∧ w = w') := by
                intro fx w h
                have := h.askA (fun own h => busy_in h q.1 hwf)
                rw [hgq] at this; exact this
              have HDe : Hid (∀ fx w, Both B fx t m r A2 R2 w → Calls Try.prog 24 #[.pointer (some ⟨t, 0, none⟩), .int .i64 q.1] w fun e w' => e = .returned (.int .i64 q.2.2) ∧ w = w') := by
                intro fx w h
                have := h.askA (fun own h => deficit_in h q.1 hwf)
                unfold deficitR at this
                rw [hgq] at this; exact this
              have tw7 := tw6.below ((Below.refl _ _).alloc (Nat.le_refl _) (.cells #[.int .i64 q.1, .string q.2.1, .int .i64 q.2.2] 57))
              have hbi' := hbi.alloc hbi.size (.cells #[.int .i64 q.1, .string q.2.1, .int .i64 q.2.2] 57)
              have d1 := (((Below.refl _ _).alloc (Nat.le_refl _) (.cells #[.int .i64 q.1, .string q.2.1, .int .i64 q.2.2] 57)).cell (p := ⟨gl, j, none⟩) (Nat.lt_of_lt_of_le hgl hbi.size)).trans d0
              clear hq hgq hmay hwf
              go_wp2_with fail
              go_quiet (first
                | (go_at_call 12; refine Calls.quiet_of_same ((HBu.out _ _ (tw7.drewN _)).mono fun e w' h => ⟨h.1, h.2.symm⟩))
                | (go_at_call 24; refine Calls.quiet_of_same ((HDe.out _ _ (tw7.drewN _)).mono fun e w' h => ⟨h.1, h.2.symm⟩)))
              go_wp2_with fail
              go_roundw
              case rel => exact ⟨j + 1, by omega, by go_num, below_drewN hbi' nq⟩
              case measure => simp [intOf]; omega
            · obtain rfl : j = R2.length := by omega
              obtain ⟨k0, k1, k2⟩ := HZ.out _ _ _ tw6
              have hB5 := Nat.le_trans (show B ≤ W.heap.size by rw [HB.out]; exact Nat.le_refl _) hbl5.size
              have HN := Lib.hid (plays_next (tw6.fewer (fun p hp => by cases hp)) hs2 (hl2.mono (by omega)) hn2 (hbl5.trans (hbi.mono hB5)) (Nat.le_trans hB5 hbi.size))
              by_cases hf : findIx R2 Tk < R2.length
              · have HF := Lib.hid (tw6.askR (fun own h => find_there h Tk (by omega) hf))
                obtain ⟨f, hf'⟩ : ∃ f, f = findIx R2 Tk := ⟨_, rfl⟩
                rw [← hf'] at HF hf
                clear hf' tw6
                go_wp2_with (go_at_call 25; refine HF.out.mono ?_; rintro e w' ⟨rfl, rfl⟩)
                go_roundw
                case rel => exact ⟨k + 1, by omega, by go_num, HN.out⟩
                case measure => simp [intOf]; omega
              · have HF := Lib.hid (tw6.askR (fun own h => find_none h Tk (by omega) hf))
                have hg : alGet A2 Tk = none := by
                  have : ¬ (alGet A2 Tk).isSome = true := fun e => hf ((hs2.there Tk).2 e)
                  simpa using this
                have HBu := tw6.askA (fun own h => busy_in h Tk B1.out)
                have HDe := tw6.askA (fun own h => deficit_in h Tk B1.out)
                unfold deficitR at HDe
                rw [hg] at HBu HDe
                have HBu2 := busy_no HBu
                have HDe2 := Lib.hid HDe
                clear HBu HDe tw6 hf hg
                go_wp2_with (first
                  | (go_at_call 25; refine HF.out.mono ?_; rintro e w' ⟨rfl, rfl⟩)
                  | (go_at_call 12; refine HBu2.out.mono ?_; rintro e w' ⟨rfl, rfl⟩)
                  | (go_at_call 24; refine HDe2.out.mono ?_; rintro e w' ⟨rfl, rfl⟩))
                go_roundw
                case rel => exact ⟨k + 1, by omega, by go_num, HN.out⟩
                case measure => simp [intOf]; omega
      · as_aux_lemma =>
        have hc0 : (mm + 6) % 6 = 3 := by simpa using hc
        clear hc
        have HKA : Hid (∀ w, Both B [(bx, .cells #[.int .i64 D, .int .i64 Tk, .string F] 45 (0, 0))] t m r A1 R1 w → B ≤ w.heap.size → Calls Try.prog 18 #[.pointer (some ⟨t, 0, none⟩), .int .i64 Tk] w fun e w' => e = .returned (.int .i64 (signalR A1 Tk)) ∧ Both B [(bx, .cells #[.int .i64 D, .int .i64 Tk, .string F] 45 (0, 0))] t m r (signalA A1 Tk) R1 w' ∧ Below B w w') := fun w h hb => h.callA hb (fun own h => signal_in h Tk HLO.out)
        have HKR : Hid (∀ A w, Both B [(bx, .cells #[.int .i64 D, .int .i64 Tk, .string F] 45 (0, 0))] t m r A R1 w → B ≤ w.heap.size → Calls Try.prog 19 #[.pointer (some ⟨r, 0, none⟩), .int .i64 Tk] w fun e w' => e = .returned (.int .i64 (rsignalR R1 Tk)) ∧ Both B [(bx, .cells #[.int .i64 D, .int .i64 Tk, .string F] 45 (0, 0))] t m r A (rsignalA R1 Tk) w' ∧ Below B w w') := fun A w h hb => h.callR hb (fun own h => rsignal_in h Tk (by omega) HLR.out)
        have hS := hsim.signal Tk
        have hE : (signalR A1 Tk == rsignalR R1 Tk) = true := by rw [hS.1]; simp
        have HMid : Hid (∀ w w', Both B [(bx, .cells #[.int .i64 D, .int .i64 Tk, .string F] 45 (0, 0))] t m r (signalA A1 Tk) (rsignalA R1 Tk) w' → Below B w0 w → Below B w w' → Mid B [(bx, .cells #[.int .i64 D, .int .i64 Tk, .string F] 45 (0, 0))] t m r W k w') := fun w w' h h1 h2 => ⟨_, _, h, hS.2.1, hlow.op (by omega) 3 Tk, by omega, (hb1.trans h1).trans h2⟩
        clear hS
        go_wp2_with fail
        rw [← HBX.out, ← HW0.out]
        obtain ⟨k0, k1, k2⟩ := HZ.out _ _ _ F2
        go_region_with (first
          | (go_at_call 18; refine (HKA.out _ (by first | exact F2 | exact F2.drew) (by assumption)).mono ?_; rintro e w3 ⟨rfl, F3, hb3⟩; have hB3 := Nat.le_trans hB0 hb3.size; obtain ⟨l0, l1, l2⟩ := HZ.out _ _ _ F3)
          | (go_at_call 19; refine (HKR.out _ _ (by assumption) (by assumption)).mono ?_; rintro e w4 ⟨rfl, F4, hb4⟩))
        all_goals
          have HM4 := HMid.out _ _ F4 (by first | exact hb3 | exact below_drew_left hb3) hb4
          clear HMid HKA HKR F2 F3 F4 hb3 hb4 k0 k1 k2 l0 l1 l2 hE hc0
          obtain ⟨A2, R2, tw, hs2, hl2, hn2, hbl2⟩ := HM4
          have hB4 : B ≤ w4.heap.size := Nat.le_trans (by rw [HB.out]; exact Nat.le_refl _) hbl2.size
          have HO := Lib.hid (tw.askA (fun own h => open_in h hs2 (by omega)))
          go_wp2_with (go_at_call 23; refine HO.out.mono ?_; rintro e w5 ⟨v, rfl, hrow, hb5⟩; obtain ⟨a5, c5, rfl, HL5⟩ := ints_row hrow (by simp); have tw5 := tw.below hb5; obtain ⟨ra, rc, kr, HRW⟩ := tw5.row; have hbl5 : Below B W w5 := hbl2.trans (hb5.mono hB4))
          have TW5 := Lib.hid tw5
          clear tw hrow hb5 hbl2 HO tw5
          go_loopw [156] (fun i wi => ∃ j : Nat, j ≤ R2.length ∧ i = .int .i64 j ∧ Below w5.heap.size w5 wi) (fun i _ => R2.length - (intOf i).toNat)
          case atStart => exact ⟨0, Nat.zero_le _, rfl, Below.refl _ _⟩
          case round =>
            obtain ⟨j, hj, rfl, hbi⟩ := hrel
            have tw6 := TW5.out.below hbi
            by_cases hjl : j < R2.length
            · obtain ⟨gr, q, rfl, hq, e0, e1, e2, hrc, hrm, hgr⟩ := HRW.out j hjl
              obtain ⟨gl, rfl, d0, hlc, hlm, hgl⟩ := HL5.out j q.1 (by rw [List.getElem?_map, hq]; rfl)
              unfold maxLen at hrm hlm
              replace e0 := (hbi.cell (p := ⟨gr, j * 3, none⟩) hgr).trans e0
              replace e1 := (hbi.cell (p := ⟨gr, j * 3 + 1, none⟩) hgr).trans e1
              replace e2 := (hbi.cell (p := ⟨gr, j * 3 + 2, none⟩) hgr).trans e2
              replace d0 := (hbi.cell (p := ⟨gl, j, none⟩) hgl).trans d0
              have hgq : alGet A2 q.1 = some q.2 := by rw [hs2.same]; exact get_of_mem hs2.up (List.mem_of_getElem? hq)
              have hmay : mayB q.1 = true := by
                cases e : mayB q.1 with
                | true => rfl
                | false => have := hs2.may _ e; rw [← hs2.same, hgq] at this; cases this
              have hwf := wf_of_may hmay
              have HBu : Hid (∀ fx w, Both B fx t m r A2 R2 w → Calls Try.prog 12 #[.pointer (some ⟨t, 0, none⟩), .int .i64 q.1] w fun e w' => e = .returned (.bool true) ∧ w = w') := by
                intro fx w h
                have := h.askA (fun own h => busy_in h q.1 hwf)
                rw [hgq] at this; exact this
              have HDe : Hid (∀ fx w, Both B fx t m r A2 R2 w → Calls Try.prog 24 #[.pointer (some ⟨t, 0, none⟩), .int .i64 q.1] w fun e w' => e = .returned (.int .i64 q.2.2) ∧ w = w') := by
                intro fx w h
                have := h.askA (fun own h => deficit_in h q.1 hwf)
                unfold deficitR at this
                rw [hgq] at this; exact this
              have tw7 := tw6.below ((Below.refl _ _).alloc (Nat.le_refl _) (.cells #[.int .i64 q.1, .string q.2.1, .int .i64 q.2.2] 57))
              have hbi' := hbi.alloc hbi.size (.cells #[.int .i64 q.1, .string q.2.1, .int .i64 q.2.2] 57)
              have d1 := (((Below.refl _ _).alloc (Nat.le_refl _) (.cells #[.int .i64 q.1, .string q.2.1, .int .i64 q.2.2] 57)).cell (p := ⟨gl, j, none⟩) (Nat.lt_of_lt_of_le hgl hbi.size)).trans d0
              clear hq hgq hmay hwf
              go_wp2_with fail
              go_quiet (first
                | (go_at_call 12; refine Calls.quiet_of_same ((HBu.out _ _ (tw7.drewN _)).mono fun e w' h => ⟨h.1, h.2.symm⟩))
                | (go_at_call 24; refine Calls.quiet_of_same ((HDe.out _ _ (tw7.drewN _)).mono fun e w' h => ⟨h.1, h.2.symm⟩)))
              go_wp2_with fail
              go_roundw
              case rel => exact ⟨j + 1, by omega, by go_num, below_drewN hbi' nq⟩
              case measure => simp [intOf]; omega
            · obtain rfl : j = R2.length := by omega
              obtain ⟨k0, k1, k2⟩ := HZ.out _ _ _ tw6
              have hB5 := Nat.le_trans (show B ≤ W.heap.size by rw [HB.out]; exact Nat.le_refl _) hbl5.size
              have HN := Lib.hid (plays_next (tw6.fewer (fun p hp => by cases hp)) hs2 (hl2.mono (by omega)) hn2 (hbl5.trans (hbi.mono hB5)) (Nat.le_trans hB5 hbi.size))
              by_cases hf : findIx R2 Tk < R2.length
              · have HF := Lib.hid (tw6.askR (fun own h => find_there h Tk (by omega) hf))
                obtain ⟨f, hf'⟩ : ∃ f, f = findIx R2 Tk := ⟨_, rfl⟩
                rw [← hf'] at HF hf
                clear hf' tw6
                go_wp2_with (go_at_call 25; refine HF.out.mono ?_; rintro e w' ⟨rfl, rfl⟩)
                go_roundw
                case rel => exact ⟨k + 1, by omega, by go_num, HN.out⟩
                case measure => simp [intOf]; omega
              · have HF := Lib.hid (tw6.askR (fun own h => find_none h Tk (by omega) hf))
                have hg : alGet A2 Tk = none := by
                  have : ¬ (alGet A2 Tk).isSome = true := fun e => hf ((hs2.there Tk).2 e)
                  simpa using this
                have HBu := tw6.askA (fun own h => busy_in h Tk B1.out)
                have HDe := tw6.askA (fun own h => deficit_in h Tk B1.out)
                unfold deficitR at HDe
                rw [hg] at HBu HDe
                have HBu2 := busy_no HBu
                have HDe2 := Lib.hid HDe
                clear HBu HDe tw6 hf hg
                go_wp2_with (first
                  | (go_at_call 25; refine HF.out.mono ?_; rintro e w' ⟨rfl, rfl⟩)
                  | (go_at_call 12; refine HBu2.out.mono ?_; rintro e w' ⟨rfl, rfl⟩)
                  | (go_at_call 24; refine HDe2.out.mono ?_; rintro e w' ⟨rfl, rfl⟩))
                go_roundw
                case rel => exact ⟨k + 1, by omega, by go_num, HN.out⟩
                case measure => simp [intOf]; omega
      · as_aux_lemma =>
        have hc0 : (mm + 6) % 6 = 4 := by simpa using hc
        clear hc
        have hS := hsim.rest Tk
        obtain ⟨gp, gb, hx1⟩ := rest_form A1 Tk
        have hx2 := hS.1.symm.trans hx1
        have HKA : Hid (∀ w, Both B [(bx, .cells #[.int .i64 D, .int .i64 Tk, .string F] 45 (0, 0))] t m r A1 R1 w → B ≤ w.heap.size → Calls Try.prog 20 #[.pointer (some ⟨t, 0, none⟩), .int .i64 Tk] w fun e w' => e = .returned (.tuple #[.string gp, .bool gb]) ∧ Both B [(bx, .cells #[.int .i64 D, .int .i64 Tk, .string F] 45 (0, 0))] t m r (restT A1 Tk) R1 w' ∧ Below B w w') := fun w h hb => h.callA hb (fun own h => by rw [← hx1]; exact rest_in h Tk HLO.out)
        have HKR : Hid (∀ A w, Both B [(bx, .cells #[.int .i64 D, .int .i64 Tk, .string F] 45 (0, 0))] t m r A R1 w → B ≤ w.heap.size → Calls Try.prog 21 #[.pointer (some ⟨r, 0, none⟩), .int .i64 Tk] w fun e w' => e = .returned (.tuple #[.string gp, .bool gb]) ∧ Both B [(bx, .cells #[.int .i64 D, .int .i64 Tk, .string F] 45 (0, 0))] t m r A (rrestT R1 Tk) w' ∧ Below B w w') := fun A w h hb => h.callR hb (fun own h => by rw [← hx2]; exact rrest_in h Tk (by omega))
        have HMid : Hid (∀ w w', Both B [(bx, .cells #[.int .i64 D, .int .i64 Tk, .string F] 45 (0, 0))] t m r (restT A1 Tk) (rrestT R1 Tk) w' → Below B w0 w → Below B w w' → Mid B [(bx, .cells #[.int .i64 D, .int .i64 Tk, .string F] 45 (0, 0))] t m r W k w') := fun w w' h h1 h2 => ⟨_, _, h, hS.2.1, hlow.op (by omega) 4 Tk, by omega, (hb1.trans h1).trans h2⟩
        clear hS hx1 hx2
        obtain ⟨k0, k1, k2⟩ := HZ.out _ _ _ F2
        go_wp2_with (first
          | (go_at_call 20; rw [← HBX.out, ← HW0.out]; refine (HKA.out _ F2 hB0).mono ?_; rintro e w3 ⟨rfl, F3, hb3⟩; have hB3 := Nat.le_trans hB0 hb3.size; obtain ⟨l0, l1, l2⟩ := HZ.out _ _ _ F3)
          | (go_at_call 21; refine (HKR.out _ _ F3 hB3).mono ?_; rintro e w4 ⟨rfl, F4, hb4⟩; have HM4 := HMid.out _ _ F4 hb3 hb4; clear HMid HKA HKR F2 F3 F4 hb3 hb4 k0 k1 k2 l0 l1 l2 hc0; obtain ⟨A2, R2, tw, hs2, hl2, hn2, hbl2⟩ := HM4; have hB4 : B ≤ w4.heap.size := Nat.le_trans (by rw [HB.out]; exact Nat.le_refl _) hbl2.size; have HO := Lib.hid (tw.askA (fun own h => open_in h hs2 (by omega))))
          | (go_at_call 23; refine HO.out.mono ?_; rintro e w5 ⟨v, rfl, hrow, hb5⟩; obtain ⟨a5, c5, rfl, HL5⟩ := ints_row hrow (by simp); have tw5 := tw.below hb5; obtain ⟨ra, rc, kr, HRW⟩ := tw5.row; have hbl5 : Below B W w5 := hbl2.trans (hb5.mono hB4)))
        have TW5 := Lib.hid tw5
        clear tw hrow hb5 hbl2 HO tw5
        go_loopw [156] (fun i wi => ∃ j : Nat, j ≤ R2.length ∧ i = .int .i64 j ∧ Below w5.heap.size w5 wi) (fun i _ => R2.length - (intOf i).toNat)
        case atStart => exact ⟨0, Nat.zero_le _, rfl, Below.refl _ _⟩
        case round =>
          obtain ⟨j, hj, rfl, hbi⟩ := hrel
          have tw6 := TW5.out.below hbi
          by_cases hjl : j < R2.length
          · obtain ⟨gr, q, rfl, hq, e0, e1, e2, hrc, hrm, hgr⟩ := HRW.out j hjl
            obtain ⟨gl, rfl, d0, hlc, hlm, hgl⟩ := HL5.out j q.1 (by rw [List.getElem?_map, hq]; rfl)
            unfold maxLen at hrm hlm
            replace e0 := (hbi.cell (p := ⟨gr, j * 3, none⟩) hgr).trans e0
            replace e1 := (hbi.cell (p := ⟨gr, j * 3 + 1, none⟩) hgr).trans e1
            replace e2 := (hbi.cell (p := ⟨gr, j * 3 + 2, none⟩) hgr).trans e2
            replace d0 := (hbi.cell (p := ⟨gl, j, none⟩) hgl).trans d0
            have hgq : alGet A2 q.1 = some q.2 := by rw [hs2.same]; exact get_of_mem hs2.up (List.mem_of_getElem? hq)
            have hmay : mayB q.1 = true := by
              cases e : mayB q.1 with
              | true => rfl
              | false => have := hs2.may _ e; rw [← hs2.same, hgq] at this; cases this
            have hwf := wf_of_may hmay
            have HBu : Hid (∀ fx w, Both B fx t m r A2 R2 w → Calls Try.prog 12 #[.pointer (some ⟨t, 0, none⟩), .int .i64 q.1] w fun e w' => e = .returned (.bool true) ∧ w = w') := by
              intro fx w h
              have := h.askA (fun own h => busy_in h q.1 hwf)
              rw [hgq] at this; exact this
            have HDe : Hid (∀ fx w, Both B fx t m r A2 R2 w → Calls Try.prog 24 #[.pointer (some ⟨t, 0, none⟩), .int .i64 q.1] w fun e w' => e = .returned (.int .i64 q.2.2) ∧ w = w') := by
              intro fx w h
              have := h.askA (fun own h => deficit_in h q.1 hwf)
              unfold deficitR at this
              rw [hgq] at this; exact this
            have tw7 := tw6.below ((Below.refl _ _).alloc (Nat.le_refl _) (.cells #[.int .i64 q.1, .string q.2.1, .int .i64 q.2.2] 57))
            have hbi' := hbi.alloc hbi.size (.cells #[.int .i64 q.1, .string q.2.1, .int .i64 q.2.2] 57)
            have d1 := (((Below.refl _ _).alloc (Nat.le_refl _) (.cells #[.int .i64 q.1, .string q.2.1, .int .i64 q.2.2] 57)).cell (p := ⟨gl, j, none⟩) (Nat.lt_of_lt_of_le hgl hbi.size)).trans d0
            clear hq hgq hmay hwf
            go_wp2_with fail
            go_quiet (first
              | (go_at_call 12; refine Calls.quiet_of_same ((HBu.out _ _ (tw7.drewN _)).mono fun e w' h => ⟨h.1, h.2.symm⟩))
              | (go_at_call 24; refine Calls.quiet_of_same ((HDe.out _ _ (tw7.drewN _)).mono fun e w' h => ⟨h.1, h.2.symm⟩)))
            go_wp2_with fail
            go_roundw
            case rel => exact ⟨j + 1, by omega, by go_num, below_drewN hbi' nq⟩
            case measure => simp [intOf]; omega
          · obtain rfl : j = R2.length := by omega
            obtain ⟨k0, k1, k2⟩ := HZ.out _ _ _ tw6
            have hB5 := Nat.le_trans (show B ≤ W.heap.size by rw [HB.out]; exact Nat.le_refl _) hbl5.size
            have HN := Lib.hid (plays_next (tw6.fewer (fun p hp => by cases hp)) hs2 (hl2.mono (by omega)) hn2 (hbl5.trans (hbi.mono hB5)) (Nat.le_trans hB5 hbi.size))
            by_cases hf : findIx R2 Tk < R2.length
            · have HF := Lib.hid (tw6.askR (fun own h => find_there h Tk (by omega) hf))
              obtain ⟨f, hf'⟩ : ∃ f, f = findIx R2 Tk := ⟨_, rfl⟩
              rw [← hf'] at HF hf
              clear hf' tw6
              go_wp2_with (go_at_call 25; refine HF.out.mono ?_; rintro e w' ⟨rfl, rfl⟩)
              go_roundw
              case rel => exact ⟨k + 1, by omega, by go_num, HN.out⟩
              case measure => simp [intOf]; omega
            · have HF := Lib.hid (tw6.askR (fun own h => find_none h Tk (by omega) hf))
              have hg : alGet A2 Tk = none := by
                have : ¬ (alGet A2 Tk).isSome = true := fun e => hf ((hs2.there Tk).2 e)
                simpa using this
              have HBu := tw6.askA (fun own h => busy_in h Tk B1.out)
              have HDe := tw6.askA (fun own h => deficit_in h Tk B1.out)
              unfold deficitR at HDe
              rw [hg] at HBu HDe
              have HBu2 := busy_no HBu
              have HDe2 := Lib.hid HDe
              clear HBu HDe tw6 hf hg
              go_wp2_with (first
                | (go_at_call 25; refine HF.out.mono ?_; rintro e w' ⟨rfl, rfl⟩)
                | (go_at_call 12; refine HBu2.out.mono ?_; rintro e w' ⟨rfl, rfl⟩)
                | (go_at_call 24; refine HDe2.out.mono ?_; rintro e w' ⟨rfl, rfl⟩))
              go_roundw
              case rel => exact ⟨k + 1, by omega, by go_num, HN.out⟩
              case measure => simp [intOf]; omega
      · as_aux_lemma =>
        have hc0 : (mm + 6) % 6 = 5 := by simpa using hc
        clear hc
        have HKA : Hid (∀ w, Both B [(bx, .cells #[.int .i64 D, .int .i64 Tk, .string F] 45 (0, 0))] t m r A1 R1 w → B ≤ w.heap.size → Calls Try.prog 22 #[.pointer (some ⟨t, 0, none⟩)] w fun e w' => e = .returned (.tuple #[]) ∧ Both B [(bx, .cells #[.int .i64 D, .int .i64 Tk, .string F] 45 (0, 0))] t m r [] R1 w' ∧ Below B w w') := fun w h hb => h.callA hb (fun own h => clear_in h)
        have HMid : Hid (∀ w w', Both B [(bx, .cells #[.int .i64 D, .int .i64 Tk, .string F] 45 (0, 0))] t m r [] [] w' → Below B w0 w → Below B w w' → Mid B [(bx, .cells #[.int .i64 D, .int .i64 Tk, .string F] 45 (0, 0))] t m r W k w') := fun w w' h h1 h2 => ⟨_, _, h, Sim.nil, (fun n p d h => by cases h), by simp, (hb1.trans h1).trans h2⟩
        obtain ⟨k0, k1, k2⟩ := HZ.out _ _ _ F2
        go_wp2_with (go_at_call 22; rw [← HBX.out, ← HW0.out]; refine (HKA.out _ F2 hB0).mono ?_; rintro e w3 ⟨rfl, F3, hb3⟩; obtain ⟨F4, hb4, hfr, vr, hvr⟩ := F3.wipe; have HM4 := HMid.out _ _ F4 hb3 hb4; clear HMid HKA F2 F3 F4 hb3 hb4 k0 k1 k2 hc0)
        obtain ⟨w4, hw4⟩ : ∃ w4, w4 = w3.setCell ⟨r, 0, none⟩ (.slice none 0 0) := ⟨_, rfl⟩
        rw [← hw4] at HM4 ⊢
        obtain ⟨A2, R2, tw, hs2, hl2, hn2, hbl2⟩ := HM4
        have hB4 : B ≤ w4.heap.size := Nat.le_trans (by rw [HB.out]; exact Nat.le_refl _) hbl2.size
        have HO := Lib.hid (tw.askA (fun own h => open_in h hs2 (by omega)))
        clear hw4 hvr hfr
        go_wp2_with (go_at_call 23; refine HO.out.mono ?_; rintro e w5 ⟨v, rfl, hrow, hb5⟩; obtain ⟨a5, c5, rfl, HL5⟩ := ints_row hrow (by simp); have tw5 := tw.below hb5; obtain ⟨ra, rc, kr, HRW⟩ := tw5.row; have hbl5 : Below B W w5 := hbl2.trans (hb5.mono hB4))
        have TW5 := Lib.hid tw5
        clear tw hrow hb5 hbl2 HO tw5
        go_loopw [156] (fun i wi => ∃ j : Nat, j ≤ R2.length ∧ i = .int .i64 j ∧ Below w5.heap.size w5 wi) (fun i _ => R2.length - (intOf i).toNat)
        case atStart => exact ⟨0, Nat.zero_le _, rfl, Below.refl _ _⟩
        case round =>
          obtain ⟨j, hj, rfl, hbi⟩ := hrel
          have tw6 := TW5.out.below hbi
          by_cases hjl : j < R2.length
          · obtain ⟨gr, q, rfl, hq, e0, e1, e2, hrc, hrm, hgr⟩ := HRW.out j hjl
            obtain ⟨gl, rfl, d0, hlc, hlm, hgl⟩ := HL5.out j q.1 (by rw [List.getElem?_map, hq]; rfl)
            unfold maxLen at hrm hlm
            replace e0 := (hbi.cell (p := ⟨gr, j * 3, none⟩) hgr).trans e0
            replace e1 := (hbi.cell (p := ⟨gr, j * 3 + 1, none⟩) hgr).trans e1
            replace e2 := (hbi.cell (p := ⟨gr, j * 3 + 2, none⟩) hgr).trans e2
            replace d0 := (hbi.cell (p := ⟨gl, j, none⟩) hgl).trans d0
            have hgq : alGet A2 q.1 = some q.2 := by rw [hs2.same]; exact get_of_mem hs2.up (List.mem_of_getElem? hq)
            have hmay : mayB q.1 = true := by
              cases e : mayB q.1 with
              | true => rfl
              | false => have := hs2.may _ e; rw [← hs2.same, hgq] at this; cases this
            have hwf := wf_of_may hmay
            have HBu : Hid (∀ fx w, Both B fx t m r A2 R2 w → Calls Try.prog 12 #[.pointer (some ⟨t, 0, none⟩), .int .i64 q.1] w fun e w' => e = .returned (.bool true) ∧ w = w') := by
              intro fx w h
              have := h.askA (fun own h => busy_in h q.1 hwf)
              rw [hgq] at this; exact this
            have HDe : Hid (∀ fx w, Both B fx t m r A2 R2 w → Calls Try.prog 24 #[.pointer (some ⟨t, 0, none⟩), .int .i64 q.1] w fun e w' => e = .returned (.int .i64 q.2.2) ∧ w = w') := by
              intro fx w h
              have := h.askA (fun own h => deficit_in h q.1 hwf)
              unfold deficitR at this
              rw [hgq] at this; exact this
            have tw7 := tw6.below ((Below.refl _ _).alloc (Nat.le_refl _) (.cells #[.int .i64 q.1, .string q.2.1, .int .i64 q.2.2] 57))
            have hbi' := hbi.alloc hbi.size (.cells #[.int .i64 q.1, .string q.2.1, .int .i64 q.2.2] 57)
            have d1 := (((Below.refl _ _).alloc (Nat.le_refl _) (.cells #[.int .i64 q.1, .string q.2.1, .int .i64 q.2.2] 57)).cell (p := ⟨gl, j, none⟩) (Nat.lt_of_lt_of_le hgl hbi.size)).trans d0
            clear hq hgq hmay hwf
            go_wp2_with fail
            go_quiet (first
              | (go_at_call 12; refine Calls.quiet_of_same ((HBu.out _ _ (tw7.drewN _)).mono fun e w' h => ⟨h.1, h.2.symm⟩))
              | (go_at_call 24; refine Calls.quiet_of_same ((HDe.out _ _ (tw7.drewN _)).mono fun e w' h => ⟨h.1, h.2.symm⟩)))
            go_wp2_with fail
            go_roundw
            case rel => exact ⟨j + 1, by omega, by go_num, below_drewN hbi' nq⟩
            case measure => simp [intOf]; omega
          · obtain rfl : j = R2.length := by omega
            obtain ⟨k0, k1, k2⟩ := HZ.out _ _ _ tw6
            have hB5 := Nat.le_trans (show B ≤ W.heap.size by rw [HB.out]; exact Nat.le_refl _) hbl5.size
            have HN := Lib.hid (plays_next (tw6.fewer (fun p hp => by cases hp)) hs2 (hl2.mono (by omega)) hn2 (hbl5.trans (hbi.mono hB5)) (Nat.le_trans hB5 hbi.size))
            by_cases hf : findIx R2 Tk < R2.length
            · have HF := Lib.hid (tw6.askR (fun own h => find_there h Tk (by omega) hf))
              obtain ⟨f, hf'⟩ : ∃ f, f = findIx R2 Tk := ⟨_, rfl⟩
              rw [← hf'] at HF hf
              clear hf' tw6
              go_wp2_with (go_at_call 25; refine HF.out.mono ?_; rintro e w' ⟨rfl, rfl⟩)
              go_roundw
              case rel => exact ⟨k + 1, by omega, by go_num, HN.out⟩
              case measure => simp [intOf]; omega
            · have HF := Lib.hid (tw6.askR (fun own h => find_none h Tk (by omega) hf))
              have hg : alGet A2 Tk = none := by
                have : ¬ (alGet A2 Tk).isSome = true := fun e => hf ((hs2.there Tk).2 e)
                simpa using this
              have HBu := tw6.askA (fun own h => busy_in h Tk B1.out)
              have HDe := tw6.askA (fun own h => deficit_in h Tk B1.out)
              unfold deficitR at HDe
              rw [hg] at HBu HDe
              have HBu2 := busy_no HBu
              have HDe2 := Lib.hid HDe
              clear HBu HDe tw6 hf hg
              go_wp2_with (first
                | (go_at_call 25; refine HF.out.mono ?_; rintro e w' ⟨rfl, rfl⟩)
                | (go_at_call 12; refine HBu2.out.mono ?_; rintro e w' ⟨rfl, rfl⟩)
                | (go_at_call 24; refine HDe2.out.mono ?_; rintro e w' ⟨rfl, rfl⟩))
              go_roundw
              case rel => exact ⟨k + 1, by omega, by go_num, HN.out⟩
              case measure => simp [intOf]; omega
    · go_wp2_with fail
      go_ret
      exact ⟨rfl, by rw [← HB.out]; exact hbl⟩
end Go.Proofs.Ytkjfiofefndgkaa
