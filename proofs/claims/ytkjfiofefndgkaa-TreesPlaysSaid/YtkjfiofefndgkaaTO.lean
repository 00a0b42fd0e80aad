/- The law TreesNil: the walk. -/
import Derived.Test.YtkjfiofefndgkaaTN
import Derived.Deep.DeepCutAuto
import Derived.LaidEqlPtr
namespace Go.Proofs.Ytkjfiofefndgkaa
set_option linter.unusedVariables false
set_option linter.unusedSimpArgs false
open Go.RowKit
open Go.ChangeMaps (setBlock)

/-- The argument: a row of calls. -/
def ActRow (w : World) (A : Option Addr) (len cap : Nat) (z : Nat → Int × Int × ByteArray) : Prop :=
  len ≤ cap ∧ cap ≤ maxLen ∧ (len = 0 ∨ ∃ g o, A = some ⟨g, o, none⟩ ∧ g < w.heap.size ∧ ∀ i, i < len →
    w.cell? ⟨g, o + i * 3, none⟩ = some (.int .i64 (z i).1) ∧ w.cell? ⟨g, o + (i * 3 + 1), none⟩ = some (.int .i64 (z i).2.1) ∧ w.cell? ⟨g, o + (i * 3 + 2), none⟩ = some (.string (z i).2.2) ∧
      (Lit.int .i64 (z i).1).wf = true ∧ (Lit.int .i64 (z i).2.1).wf = true ∧ (z i).2.2.size ≤ maxLen)

def NilRel (B t1 m1 t2 m2 : Nat) (one : Int) (W : World) (k : Nat) (w : World) : Prop :=
  ∃ A1 A2, Two B [] t1 m1 t2 m2 A1 A2 w ∧ alGet A1 one = alGet A2 one ∧ Low k A1 ∧ Low k A2 ∧ Below B W w ∧ B ≤ w.heap.size

theorem tmod_six (D : Int) : -6 < D.tmod 6 ∧ D.tmod 6 < 6 := by
  refine ⟨?_, Int.tmod_lt_of_pos D (by decide)⟩
  have := Int.tmod_lt_of_pos (-D) (b := 6) (by decide)
  rw [Int.neg_tmod] at this
  omega

/-- In the loop over the two tables. -/
def InRel (B t1 m1 t2 m2 : Nat) (fix : List (Nat × Obj)) (A1 A2 : Tab) (W : World) (j : Nat) (w : World) : Prop :=
  Two B fix t1 m1 t2 m2 A1 A2 w ∧ Below B W w ∧ B ≤ w.heap.size

/-- What a row of cells at a known block holds. -/
theorem cells_at {w : World} {b : Nat} {c : Array Value} {T : TypeId} (h : w.heap[b]? = some (.cells c T (0, 0))) (i : Nat) : w.cell? ⟨b, i, none⟩ = c[i]? := by
  simp [World.cell?, h]

theorem Try.info64 : (Try.prog.info? 64).map (·.size) = some 1 := by kernel_rfl

theorem Two.tops {B : Nat} {fix : List (Nat × Obj)} {t1 m1 t2 m2 : Nat} {A1 A2 : Tab} {w : World} (h : Two B fix t1 m1 t2 m2 A1 A2 w) :
    w.heap[t1]? = some (.cells #[.map (some m1)] 64 (0, 0)) ∧ w.heap[t2]? = some (.cells #[.map (some m2)] 64 (0, 0)) := by
  obtain ⟨o1, o2, h1, h2, _⟩ := h
  obtain ⟨L1, a1, _⟩ := h1.ex
  obtain ⟨L2, a2, _⟩ := h2.ex
  exact ⟨a1.top, a2.top⟩
theorem Two.eql {B : Nat} {fix : List (Nat × Obj)} {t1 m1 t2 m2 : Nat} {A1 A2 : Tab} {w : World} (h : Two B fix t1 m1 t2 m2 A1 A2 w) :
    (binOp .eql 24 (.pointer (some ⟨t1, 0, none⟩)) (.pointer (some ⟨t2, 0, none⟩))).run Try.prog w = .ok (.bool false) w ∧
    (binOp .eql 24 (.pointer (some ⟨t2, 0, none⟩)) (.pointer (some ⟨t2, 0, none⟩))).run Try.prog w = .ok (.bool true) w := by
  obtain ⟨i, hi, hz⟩ := Option.map_eq_some_iff.1 Try.info64
  have hne := h.ne
  obtain ⟨a, b⟩ := h.tops
  exact ⟨run_eql_ptr_other w Try.underlying24 hi (by omega) (fun e => hne (by injection e)) a b, run_eql_ptr_same w _ Try.underlying24 hi⟩

theorem Two.ask1 {B : Nat} {fix : List (Nat × Obj)} {t1 m1 t2 m2 : Nat} {A1 A2 : Tab} {w : World} (h : Two B fix t1 m1 t2 m2 A1 A2 w) {Q : Prop} (hc : ∀ own : Nat → Prop, TreesIn own w t1 m1 A1 → Q) : Q := by
  obtain ⟨o1, o2, h1, h2, _⟩ := h
  exact hc o1 h1
theorem Two.ask2 {B : Nat} {fix : List (Nat × Obj)} {t1 m1 t2 m2 : Nat} {A1 A2 : Tab} {w : World} (h : Two B fix t1 m1 t2 m2 A1 A2 w) {Q : Prop} (hc : ∀ own : Nat → Prop, TreesIn own w t2 m2 A2 → Q) : Q := h.swap.ask1 hc

theorem low_get {k : Nat} {A : Tab} (h : Low k A) (hk : k ≤ 60) (n : Int) : ∀ p d, alGet A n = some (p, d) → 0 ≤ d ∧ d < 4611686018427387904 := fun p d e => by have := h n p d e; omega

set_option maxHeartbeats 4000000 in
set_option maxRecDepth 100000 in
theorem TreesNil_any (A : Option Addr) (len cap : Nat) (z : Nat → Int × Int × ByteArray) (tk : Int) (W : World) (hr : ActRow W A len cap z) (htk : (Lit.int .i64 tk).wf = true) :
    Calls Try.prog 6 #[.slice A len cap, .int .i64 tk] W (BoolPost W true) := by
  have HR := Lib.hid hr; clear hr
  have HT := Lib.hid htk; clear htk
  go_enter Try.func6, Try.ntmps6
  go_wp2_with (first
    | (go_at_call 22; refine (clear_nil _).mono ?_; rintro e w' ⟨rfl, rfl⟩)
    | (go_at_call 14; refine (Got_nil _ _ _).mono ?_; rintro e w' ⟨rfl, rfl⟩)
    | (go_at_call 20; refine (Rest_nil _ _).mono ?_; rintro e w' ⟨rfl, rfl⟩)
    | (go_at_call 9; refine (start_nil _ _).mono ?_; rintro e w' ⟨rfl, rfl⟩)
    | (go_at_call 16; refine (Sent_nil _ _).mono ?_; rintro e w' ⟨rfl, rfl⟩)
    | (go_at_call 18; refine (Signal_nil _ _).mono ?_; rintro e w' ⟨rfl, rfl⟩)
    | (go_at_call 12; refine (Busy_nil _ _).mono ?_; rintro e w' ⟨rfl, rfl⟩)
    | (go_at_call 23; refine (open_nil _).mono ?_; rintro e w' ⟨rfl, rfl⟩)
    | (go_at_call 24; refine (deficit_nil _ _).mono ?_; rintro e w' ⟨rfl, rfl⟩))
  refine (New_in W).mono ?_
  rintro e w1 ⟨rfl, hb1, own1, hi1, ho1⟩
  go_wp2_with fail
  refine (New_in w1).mono ?_
  rintro e w2 ⟨rfl, hb2, own2, hi2, ho2⟩
  have h2 : Two W.heap.size [] (W.heap.size + 1) W.heap.size (w1.heap.size + 1) w1.heap.size [] [] w2 := by
    refine ⟨own1, own2, hi1.below hb2, hi2, fun k h1 h2 => ?_, fun k hk => ?_, (fun p hp => by cases hp)⟩
    · have := hi1.lt k h1; have := ho2 k h2; omega
    · rcases hk with hk | hk
      · exact ho1 k hk
      · exact Nat.le_trans hb1.size (ho2 k hk)
  have hbl : Below W.heap.size W w2 := hb1.trans (hb2.mono hb1.size)
  obtain ⟨B, hB⟩ : ∃ B, B = W.heap.size := ⟨_, rfl⟩
  obtain ⟨t1, ht1⟩ : ∃ t1, t1 = W.heap.size + 1 := ⟨_, rfl⟩
  obtain ⟨t2, ht2⟩ : ∃ t2, t2 = w1.heap.size + 1 := ⟨_, rfl⟩
  rw [← ht1, ← ht2] at h2 ⊢
  rw [← hB] at h2 hbl
  obtain ⟨m1, hm1⟩ : ∃ m1, m1 = B := ⟨_, rfl⟩
  have h2' : Two B [] t1 m1 t2 w1.heap.size [] [] w2 := by rw [hm1]; exact h2
  have HB := Lib.hid hB; have HT1 := Lib.hid ht1; have HT2 := Lib.hid ht2
  clear hB ht1 ht2 hm1 h2 hb1 hb2 hi1 hi2 ho1 ho2
  obtain ⟨a, ha, -⟩ : ∃ a : Nat, (if 0 < tk then tk else 0) = (a : Int) ∧ True := by
    by_cases h : 0 < tk
    · exact ⟨tk.toNat, by rw [if_pos h]; omega, trivial⟩
    · exact ⟨0, by rw [if_neg h]; rfl, trivial⟩
  obtain ⟨r, hr, hr5⟩ : ∃ r : Nat, (a : Int) % 5 = (r : Int) ∧ r < 5 := ⟨a % 5, by omega, by omega⟩
  obtain ⟨q1, q2, q3⟩ := HR.out
  obtain ⟨n, hn, hn1, hn2, hn3⟩ : ∃ n : Nat, (if (60 : Int) < (len : Int) then (60 : Int) else (len : Int)) = (n : Int) ∧ n ≤ len ∧ n ≤ 60 ∧ n ≤ cap := by
    by_cases h : (60 : Int) < (len : Int)
    · exact ⟨60, by rw [if_pos h]; rfl, by omega, by omega, by omega⟩
    · exact ⟨len, by rw [if_neg h], by omega, by omega, by omega⟩
  unfold maxLen at q2
  have Q3 := Lib.hid q3; clear q3
  have HS : Hid (NilRel B t1 m1 t2 w1.heap.size (1 + (r : Int)) W 0 w2) := ⟨[], [], h2', rfl, (fun n p d h => by cases h), (fun n p d h => by cases h), hbl, by rw [HB.out]; exact hbl.size⟩
  clear h2' hbl
  obtain ⟨m2, hm2⟩ : ∃ m2, m2 = w1.heap.size := ⟨_, rfl⟩
  rw [← hm2] at HS
  clear hm2
  go_wp2_with fail
  obtain ⟨one, hone⟩ : ∃ one : Int, one = 1 + (r : Int) := ⟨_, rfl⟩
  rw [← hone] at HS ⊢
  have hone2 : (Lit.int .i64 one).wf = true := WalkArith.wf_i64 (by omega)
  have H1 := Lib.hid hone2
  clear ha hr hn hone hone2
  go_loopw [83] (fun i wr => ∃ k : Nat, k ≤ n ∧ i = .int .i64 k ∧ NilRel B t1 m1 t2 m2 one W k wr) (fun i _ => n - (intOf i).toNat)
  case atStart => exact ⟨0, Nat.zero_le _, rfl, HS.out⟩
  case round =>
    clear HS
    obtain ⟨k, hkn, rfl, A1, A2, htw, hag, hl1, hl2, hbl, hBw⟩ := hrel
    by_cases hlt : k < n
    · have hlen0 : len ≠ 0 := by omega
      obtain ⟨g, o, rfl, hg, hz⟩ := Q3.out.resolve_left hlen0
      obtain ⟨z0, z1, z2, b0, b1, b2⟩ := hz k (by omega)
      obtain ⟨D, hD⟩ : ∃ D, D = (z k).1 := ⟨_, rfl⟩
      obtain ⟨Tk, hTk⟩ : ∃ Tk, Tk = (z k).2.1 := ⟨_, rfl⟩
      obtain ⟨Fr, hFr⟩ : ∃ Fr, Fr = (z k).2.2 := ⟨_, rfl⟩
      rw [← hD] at z0 b0; rw [← hTk] at z1 b1; rw [← hFr] at z2 b2
      clear hD hTk hFr hz
      have hgB : g < B := by rw [HB.out]; exact hg
      have hblB : Below B W wr := hbl
      replace z0 := (hblB.cell (p := ⟨g, o + k * 3, none⟩) hgB).trans z0
      replace z1 := (hblB.cell (p := ⟨g, o + (k * 3 + 1), none⟩) hgB).trans z1
      replace z2 := (hblB.cell (p := ⟨g, o + (k * 3 + 2), none⟩) hgB).trans z2
      have y1 : wr.cell? ⟨g, o + k * 3 + 1, none⟩ = some (.int .i64 Tk) := z1
      have y2 : wr.cell? ⟨g, o + k * 3 + 2, none⟩ = some (.string Fr) := z2
      have B0 := Lib.hid b0; have B1 := Lib.hid b1; clear b0 b1
      have hd6 := tmod_six D
      obtain ⟨m, hm⟩ : ∃ m, m = D.tmod 6 := ⟨_, rfl⟩
      rw [← hm] at hd6
      obtain ⟨c, hc, hc6⟩ : ∃ c : Nat, (m + 6) % 6 = (c : Int) ∧ c < 6 := ⟨((m + 6) % 6).toNat, by omega, by omega⟩
      have hm' := hm.symm
      clear hm
      have hne := htw.ne
      have tw0 := (htw.alloc (.cells #[.int .i64 D, .int .i64 Tk, .string Fr] 45)).alloc (.cells #[.pointer (some ⟨t1, 0, none⟩), .pointer (some ⟨t2, 0, none⟩)] 24)
      have hsz : (wr.alloc (.cells #[.int .i64 D, .int .i64 Tk, .string Fr] 45)).heap.size = wr.heap.size + 1 := World.size_alloc _ _
      rw [hsz] at tw0
      obtain ⟨fix, hfix⟩ : ∃ fix, fix = [(wr.heap.size + 1, Obj.cells #[.pointer (some ⟨t1, 0, none⟩), .pointer (some ⟨t2, 0, none⟩)] 24 (0, 0)), (wr.heap.size, Obj.cells #[.int .i64 D, .int .i64 Tk, .string Fr] 45 (0, 0))] := ⟨_, rfl⟩
      rw [← hfix] at tw0
      have hf1 : (wr.heap.size + 1, Obj.cells #[.pointer (some ⟨t1, 0, none⟩), .pointer (some ⟨t2, 0, none⟩)] 24 (0, 0)) ∈ fix := by rw [hfix]; simp
      have hf2 : (wr.heap.size, Obj.cells #[.int .i64 D, .int .i64 Tk, .string Fr] 45 (0, 0)) ∈ fix := by rw [hfix]; simp
      clear hfix hsz
      have hb0 : Below B W ((wr.alloc (.cells #[.int .i64 D, .int .i64 Tk, .string Fr] 45)).alloc (.cells #[.pointer (some ⟨t1, 0, none⟩), .pointer (some ⟨t2, 0, none⟩)] 24)) := (hbl.alloc hBw _).alloc (by simp; omega) _
      have HI : Hid (InRel B t1 m1 t2 m2 fix A1 A2 W 0 ((wr.alloc (.cells #[.int .i64 D, .int .i64 Tk, .string Fr] 45)).alloc (.cells #[.pointer (some ⟨t1, 0, none⟩), .pointer (some ⟨t2, 0, none⟩)] 24))) := ⟨tw0, hb0, by simp; omega⟩
      have HB0 : Hid (B ≤ wr.heap.size) := hBw
      have HAG := Lib.hid hag
      clear tw0 hb0 hbl hBw htw hag hblB
      go_wp2_with fail
      have HM := Lib.hid hm'; have HC := Lib.hid hc
      clear z0 z1 z2 y1 y2 hm' hc
      go_loopw [91] (fun i wx => ∃ j : Nat, j ≤ 2 ∧ i = .int .i64 j ∧ InRel B t1 m1 t2 m2 fix (if 0 < j then opA c Tk A1 else A1) (if 1 < j then (if Tk = one then opA c Tk A2 else A2) else A2) W j wx) (fun i _ => 2 - (intOf i).toNat)
      case atStart => exact ⟨0, by omega, rfl, HI.out⟩
      case round =>
        clear HI
        obtain ⟨j, hj, rfl, tw, hbl, hBw⟩ := hrel
        have k1 := cells_at (tw.at hf1)
        have k2 := cells_at (tw.at hf2)
        by_cases hj2 : j < 2
        · have hj' : j = 0 ∨ j = 1 := by omega
          rcases hj' with rfl | rfl
          · rw [if_neg (by decide), if_neg (by decide)] at tw
            have k10 := k1 0
            have k20 := k2 0
            have k21 := k2 1
            simp only [List.getElem?_toArray, List.getElem?_cons_zero, List.getElem?_cons_succ] at k10 k20 k21
            clear k1 k2
            obtain ⟨e1, e2⟩ := tw.eql
            have hcc : c = 0 ∨ c = 1 ∨ c = 2 ∨ c = 3 ∨ c = 4 ∨ c = 5 := by omega
            rcases hcc with rfl | rfl | rfl | rfl | rfl | rfl
            · have hc0 : (m + 6) % 6 = 0 := by have := HC.out; simpa using this
              have hm' := HM.out
              have HK := Lib.hid (tw.call1 hBw (fun own h => start_in h Tk))
              clear tw
              go_wp2_with (go_at_call 9; refine HK.out.mono ?_; rintro e w' ⟨rfl, tw', hb'⟩)
              have hBw' : B ≤ w'.heap.size := Nat.le_trans hBw hb'.size
              have hbl' := hbl.trans hb'
              go_roundw
              case rel => exact ⟨1, by omega, by go_num, ⟨tw', hbl', hBw'⟩⟩
              case measure => simp [intOf]
            · have hc0 : (m + 6) % 6 = 1 := by have := HC.out; simpa using this
              have hm' := HM.out
              have HK := Lib.hid (tw.call1 hBw (fun own h => got_in h Tk strB (by decide)))
              clear tw
              go_wp2_with (go_at_call 14; refine HK.out.mono ?_; rintro e w' ⟨rfl, tw', hb'⟩)
              have hBw' : B ≤ w'.heap.size := Nat.le_trans hBw hb'.size
              have hbl' := hbl.trans hb'
              go_roundw
              case rel => exact ⟨1, by omega, by go_num, ⟨tw', hbl', hBw'⟩⟩
              case measure => simp [intOf]
            · have hc0 : (m + 6) % 6 = 2 := by have := HC.out; simpa using this
              have hm' := HM.out
              have HK := Lib.hid (tw.call1 hBw (fun own h => sent_in h Tk (low_get hl1 (by omega) Tk)))
              clear tw
              go_wp2_with (go_at_call 16; refine HK.out.mono ?_; rintro e w' ⟨rfl, tw', hb'⟩)
              have hBw' : B ≤ w'.heap.size := Nat.le_trans hBw hb'.size
              have hbl' := hbl.trans hb'
              go_roundw
              case rel => exact ⟨1, by omega, by go_num, ⟨tw', hbl', hBw'⟩⟩
              case measure => simp [intOf]
            · have hc0 : (m + 6) % 6 = 3 := by have := HC.out; simpa using this
              have hm' := HM.out
              have HK := Lib.hid (tw.call1 hBw (fun own h => signal_in h Tk (low_get hl1 (by omega) Tk)))
              clear tw
              go_wp2_with (go_at_call 18; refine HK.out.mono ?_; rintro e w' ⟨rfl, tw', hb'⟩)
              have hBw' : B ≤ w'.heap.size := Nat.le_trans hBw hb'.size
              have hbl' := hbl.trans hb'
              go_roundw
              case rel => exact ⟨1, by omega, by go_num, ⟨tw', hbl', hBw'⟩⟩
              case measure => simp [intOf]
            · have hc0 : (m + 6) % 6 = 4 := by have := HC.out; simpa using this
              have hm' := HM.out
              have HK := Lib.hid (tw.call1 hBw (fun own h => rest_in h Tk (low_get hl1 (by omega) Tk)))
              clear tw
              go_wp2_with (go_at_call 20; refine HK.out.mono ?_; rintro e w' ⟨rfl, tw', hb'⟩)
              have hBw' : B ≤ w'.heap.size := Nat.le_trans hBw hb'.size
              have hbl' := hbl.trans hb'
              go_roundw
              case rel => exact ⟨1, by omega, by go_num, ⟨tw', hbl', hBw'⟩⟩
              case measure => simp [intOf]
            · have hc0 : (m + 6) % 6 = 5 := by have := HC.out; simpa using this
              have hm' := HM.out
              have TW := Lib.hid tw; clear tw
              go_wp2_with fail
              go_roundw
              case rel => exact ⟨1, by omega, by go_num, ⟨TW.out, hbl, hBw⟩⟩
              case measure => simp [intOf]
          · rw [if_pos (by decide), if_neg (by decide)] at tw
            have k10 := k1 1
            have k20 := k2 0
            have k21 := k2 1
            simp only [List.getElem?_toArray, List.getElem?_cons_zero, List.getElem?_cons_succ] at k10 k20 k21
            clear k1 k2
            obtain ⟨e1, e2⟩ := tw.eql
            by_cases hto : Tk = one
            · have ht1 : (Tk != one) = false := by simp [hto]
              have HTO := Lib.hid hto; clear hto
              have hcc : c = 0 ∨ c = 1 ∨ c = 2 ∨ c = 3 ∨ c = 4 ∨ c = 5 := by omega
              rcases hcc with rfl | rfl | rfl | rfl | rfl | rfl
              · have hc0 : (m + 6) % 6 = 0 := by have := HC.out; simpa using this
                have hm' := HM.out
                have HK := Lib.hid (tw.call2 hBw (fun own h => start_in h Tk))
                clear tw
                go_wp2_with (go_at_call 9; refine HK.out.mono ?_; rintro e w' ⟨rfl, tw', hb'⟩)
                have hBw' : B ≤ w'.heap.size := Nat.le_trans hBw hb'.size
                have hbl' := hbl.trans hb'
                go_roundw
                case rel => exact ⟨2, by omega, by go_num, by rw [if_pos (by decide), if_pos (by decide), if_pos HTO.out]; exact ⟨tw', hbl', hBw'⟩⟩
                case measure => simp [intOf]
              · have hc0 : (m + 6) % 6 = 1 := by have := HC.out; simpa using this
                have hm' := HM.out
                have HK := Lib.hid (tw.call2 hBw (fun own h => got_in h Tk strB (by decide)))
                clear tw
                go_wp2_with (go_at_call 14; refine HK.out.mono ?_; rintro e w' ⟨rfl, tw', hb'⟩)
                have hBw' : B ≤ w'.heap.size := Nat.le_trans hBw hb'.size
                have hbl' := hbl.trans hb'
                go_roundw
                case rel => exact ⟨2, by omega, by go_num, by rw [if_pos (by decide), if_pos (by decide), if_pos HTO.out]; exact ⟨tw', hbl', hBw'⟩⟩
                case measure => simp [intOf]
              · have hc0 : (m + 6) % 6 = 2 := by have := HC.out; simpa using this
                have hm' := HM.out
                have HK := Lib.hid (tw.call2 hBw (fun own h => sent_in h Tk (low_get hl2 (by omega) Tk)))
                clear tw
                go_wp2_with (go_at_call 16; refine HK.out.mono ?_; rintro e w' ⟨rfl, tw', hb'⟩)
                have hBw' : B ≤ w'.heap.size := Nat.le_trans hBw hb'.size
                have hbl' := hbl.trans hb'
                go_roundw
                case rel => exact ⟨2, by omega, by go_num, by rw [if_pos (by decide), if_pos (by decide), if_pos HTO.out]; exact ⟨tw', hbl', hBw'⟩⟩
                case measure => simp [intOf]
              · have hc0 : (m + 6) % 6 = 3 := by have := HC.out; simpa using this
                have hm' := HM.out
                have HK := Lib.hid (tw.call2 hBw (fun own h => signal_in h Tk (low_get hl2 (by omega) Tk)))
                clear tw
                go_wp2_with (go_at_call 18; refine HK.out.mono ?_; rintro e w' ⟨rfl, tw', hb'⟩)
                have hBw' : B ≤ w'.heap.size := Nat.le_trans hBw hb'.size
                have hbl' := hbl.trans hb'
                go_roundw
                case rel => exact ⟨2, by omega, by go_num, by rw [if_pos (by decide), if_pos (by decide), if_pos HTO.out]; exact ⟨tw', hbl', hBw'⟩⟩
                case measure => simp [intOf]
              · have hc0 : (m + 6) % 6 = 4 := by have := HC.out; simpa using this
                have hm' := HM.out
                have HK := Lib.hid (tw.call2 hBw (fun own h => rest_in h Tk (low_get hl2 (by omega) Tk)))
                clear tw
                go_wp2_with (go_at_call 20; refine HK.out.mono ?_; rintro e w' ⟨rfl, tw', hb'⟩)
                have hBw' : B ≤ w'.heap.size := Nat.le_trans hBw hb'.size
                have hbl' := hbl.trans hb'
                go_roundw
                case rel => exact ⟨2, by omega, by go_num, by rw [if_pos (by decide), if_pos (by decide), if_pos HTO.out]; exact ⟨tw', hbl', hBw'⟩⟩
                case measure => simp [intOf]
              · have hc0 : (m + 6) % 6 = 5 := by have := HC.out; simpa using this
                have hm' := HM.out
                have TW := Lib.hid tw; clear tw
                go_wp2_with fail
                go_roundw
                case rel => exact ⟨2, by omega, by go_num, by rw [if_pos (by decide), if_pos (by decide), if_pos HTO.out]; exact ⟨TW.out, hbl, hBw⟩⟩
                case measure => simp [intOf]
            · have ht1 : (Tk != one) = true := by simp [hto]
              have HTO := Lib.hid hto; clear hto
              have TW := Lib.hid tw; clear tw
              go_wp2_with fail
              go_roundw
              case rel => exact ⟨2, by omega, by go_num, by rw [if_pos (by decide), if_pos (by decide), if_neg HTO.out]; exact ⟨TW.out, hbl, hBw⟩⟩
              case measure => simp [intOf]
        · obtain rfl : j = 2 := by omega
          rw [if_pos (by decide), if_pos (by decide)] at tw
          have hag2 : alGet (if Tk = one then opA c Tk A2 else A2) one = alGet (opA c Tk A1) one := by
            rw [opA_get]
            by_cases e : one = Tk
            · rw [if_pos e.symm, opA_get, if_pos e, if_pos e, ← e, HAG.out]
            · rw [if_neg (fun x => e x.symm), if_neg e, HAG.out]
          have HBu1 := tw.ask1 (fun own h => busy_in h one H1.out)
          have HBu2 := tw.ask2 (fun own h => busy_in h one H1.out)
          have HDe1 := tw.ask1 (fun own h => deficit_in h one H1.out)
          have HDe2 := tw.ask2 (fun own h => deficit_in h one H1.out)
          unfold deficitR at HDe2
          rw [hag2] at HBu2 HDe2
          have HN : Hid (NilRel B t1 m1 t2 m2 one W (k + 1) wr) := by
            refine ⟨_, _, tw.fewer (fun p hp => by cases hp), hag2.symm, hl1.op (by omega) c Tk, ?_, hbl, hBw⟩
            split
            · exact hl2.op (by omega) c Tk
            · exact hl2.mono (by omega)
          obtain ⟨gb, hgb⟩ : ∃ gb, gb = (alGet (opA c Tk A1) one).isSome := ⟨_, rfl⟩
          obtain ⟨gd, hgd⟩ : ∃ gd, gd = deficitR (opA c Tk A1) one := ⟨_, rfl⟩
          have HB1 : Hid (Calls Try.prog 12 #[.pointer (some ⟨t1, 0, none⟩), .int .i64 one] wr fun e w' => e = .returned (.bool gb) ∧ wr = w') := by rw [hgb]; exact HBu1
          have HB2 : Hid (Calls Try.prog 12 #[.pointer (some ⟨t2, 0, none⟩), .int .i64 one] wr fun e w' => e = .returned (.bool gb) ∧ wr = w') := by rw [hgb]; exact HBu2
          have HD1 : Hid (Calls Try.prog 24 #[.pointer (some ⟨t1, 0, none⟩), .int .i64 one] wr fun e w' => e = .returned (.int .i64 gd) ∧ wr = w') := by rw [hgd]; exact HDe1
          have HD2 : Hid (Calls Try.prog 24 #[.pointer (some ⟨t2, 0, none⟩), .int .i64 one] wr fun e w' => e = .returned (.int .i64 gd) ∧ wr = w') := by rw [hgd]; exact HDe2
          clear HBu1 HBu2 HDe1 HDe2 hgb hgd hag2 tw k1 k2
          go_wp2_with fail
          refine HB1.out.mono ?_
          rintro e w3 ⟨rfl, rfl⟩
          go_wp2_with fail
          refine HB2.out.mono ?_
          rintro e w3 ⟨rfl, rfl⟩
          cases gb
          all_goals
            go_wp2_with fail
            refine HD1.out.mono ?_
            rintro e w3 ⟨rfl, rfl⟩
            go_wp2_with fail
            refine HD2.out.mono ?_
            rintro e w3 ⟨rfl, rfl⟩
            go_wp2_with fail
            go_roundw
            case rel => exact ⟨k + 1, by omega, by go_num, HN.out⟩
            case measure => simp [intOf]; omega
    · go_wp2_with (go_at_call 8; refine (wakes_any _).mono ?_; rintro e w' ⟨rfl, hbw⟩)
      go_ret
      exact ⟨rfl, by rw [← HB.out]; exact hbl.trans (hbw.mono hBw)⟩

end Go.Proofs.Ytkjfiofefndgkaa
