/- Cells and areas: which are good and how many cells they have, in the program and in the document. -/
import Derived.Test.YtpljbpndooilgaaDoorRn
import Derived.IntWalk
namespace Go.Proofs.YtpljbpndooilgaaDoor
set_option linter.unusedVariables false
set_option linter.unusedSimpArgs false
open Go.RowKit
open Go.ChangeMaps (setBlock)

def goodC (c r : Int) : Bool := decide (0 ≤ c ∧ c < 64 ∧ 0 ≤ r ∧ r < 1024)
abbrev cellV (c r : Int) : Value := .agg #[.int .i64 c, .int .i64 r]
abbrev areaV (a b c d : Int) : Value := .agg #[.int .i64 a, .int .i64 b, .int .i64 c, .int .i64 d]
abbrev refV (c r : Int) (f g : Bool) : Value := .agg #[.int .i64 c, .int .i64 r, .bool f, .bool g]

theorem goodC_iff (c r : Int) : goodC c r = true ↔ 0 ≤ c ∧ c < 64 ∧ 0 ≤ r ∧ r < 1024 := by unfold goodC; simp

/-- One box laid. -/
theorem below_box (w : World) (o : Obj) : Below w.heap.size w (w.alloc o) := (Below.refl _ w).alloc (Nat.le_refl _) o
theorem Below.stepBox {a b : World} (h : Below a.heap.size a b) (o : Obj) : Below a.heap.size a (b.alloc o) := h.alloc h.size o
theorem Below.step {a b c : World} (k : Below b.heap.size b c) (h : Below a.heap.size a b) : Below a.heap.size a c := h.trans (k.mono h.size)
theorem Below.stepDrew {a b : World} (h : Below a.heap.size a b) : Below a.heap.size a b.drew := ⟨h.os, h.tape, h.output, h.size, h.block⟩
theorem Below.stepDrewN {a b : World} (h : Below a.heap.size a b) (n : Nat) : Below a.heap.size a (b.drewN n) := ⟨h.os, h.tape, h.output, h.size, h.block⟩

/-- A box's cells behind whatever leaves it. -/
theorem box_at {w w' : World} {xs : Array Value} {T : Nat} (h : Below (w.alloc (.cells xs T)).heap.size (w.alloc (.cells xs T)) w') (i : Nat) {v : Value} (hv : xs[i]? = some v) : w'.cell? ⟨w.heap.size, i, none⟩ = some v := by
  have k : (w.alloc (.cells xs T)).heap[w.heap.size]? = some (.cells xs T) := heap_alloc_new w _
  rw [h.cell (p := ⟨w.heap.size, i, none⟩) (lt_of_block k)]
  simp only [World.cell?, k]
  simpa using hv

theorem Cell_Good (c r : Int) (w : World) : Calls Tryd.prog 18 #[cellV c r] w (BoolPost w (goodC c r)) := by
  go_enter Tryd.func18, Tryd.ntmps18
  go_wp2
  all_goals
    go_ret
    refine ⟨ret_bool ?_, below_box _ _⟩
    rw [Bool.eq_iff_iff]; unfold goodC; simp; omega

theorem ref_Cell (c r : Int) (w : World) : Calls Tryd.prog 19 #[.int .i64 c, .int .i64 r] w fun e w' => e = .returned (.bool (goodC c r)) ∧ w = w' := by
  go_enter Tryd.func19, Tryd.ntmps19
  go_wp2
  all_goals
    go_ret
    refine ⟨ret_bool ?_, rfl⟩
    rw [Bool.eq_iff_iff]; unfold goodC; simp; omega

def cellsN (a b c d : Int) : Int := (c - a + 1) * (d - b + 1)
theorem cellsN_bound {a b c d : Int} (h1 : goodC a b = true) (h2 : goodC c d = true) (h3 : a ≤ c) (h4 : b ≤ d) : 0 ≤ cellsN a b c d ∧ cellsN a b c d ≤ 65536 := by
  rw [goodC_iff] at h1 h2
  unfold cellsN
  have hx : 0 ≤ c - a + 1 := by omega
  have hy : 0 ≤ d - b + 1 := by omega
  have h64 : c - a + 1 ≤ 64 := by omega
  have h1024 : d - b + 1 ≤ 1024 := by omega
  exact ⟨Int.mul_nonneg hx hy, Int.le_trans (Int.mul_le_mul h64 h1024 hy (by decide)) (by decide)⟩

theorem Area_cells (a b c d : Int) (w : World) (h1 : goodC a b = true) (h2 : goodC c d = true) (h3 : a ≤ c) (h4 : b ≤ d) :
    Calls Tryd.prog 45 #[areaV a b c d] w (IntPost w (cellsN a b c d)) := by
  have hc := cellsN_bound h1 h2 h3 h4
  unfold cellsN at *
  rw [goodC_iff] at h1 h2
  obtain ⟨x, hx⟩ : ∃ x, x = c - a + 1 := ⟨_, rfl⟩
  obtain ⟨y, hy⟩ : ∃ y, y = d - b + 1 := ⟨_, rfl⟩
  rw [← hx, ← hy] at hc ⊢
  obtain ⟨z, hz⟩ : ∃ z, z = x * y := ⟨_, rfl⟩
  rw [← hz] at hc ⊢
  have e1 : IntKind.i64.wrap (c - a) = c - a := IntWalk.i64_in _ (by omega)
  have e2 : IntKind.i64.wrap (c - a + 1) = x := by rw [hx]; exact IntWalk.i64_in _ (by omega)
  have e3 : IntKind.i64.wrap (d - b) = d - b := IntWalk.i64_in _ (by omega)
  have e4 : IntKind.i64.wrap (d - b + 1) = y := by rw [hy]; exact IntWalk.i64_in _ (by omega)
  have e5 : IntKind.i64.wrap (x * y) = z := by rw [← hz]; exact IntWalk.i64_in _ (by omega)
  clear hx hy hz
  go_enter Tryd.func45, Tryd.ntmps45
  go_wp2
  go_ret
  exact ⟨ret_int rfl, below_box _ _⟩

def areaOk (a b c d : Int) : Bool := goodC a b && goodC c d && decide (a ≤ c) && decide (b ≤ d) && decide (cellsN a b c d ≤ 4096)

theorem Area_Good (a b c d : Int) (w : World) : Calls Tryd.prog 22 #[areaV a b c d] w (BoolPost w (areaOk a b c d)) := by
  have H1 := fun w => Cell_Good a b w
  have H2 := fun w => Cell_Good c d w
  cases h1 : goodC a b with
  | false =>
    rw [h1] at H1
    have H := Lib.hid H1; clear H1 H2
    go_enter Tryd.func22, Tryd.ntmps22
    go_wp2_with (go_at_call 18; refine (H.out _).mono ?_; rintro e w' ⟨rfl, hb⟩)
    go_ret
    exact ⟨ret_bool (by unfold areaOk; simp [h1]), by (repeat (first | exact Below.refl _ _ | exact below_box _ _ | refine Below.stepBox ?_ _ | refine Below.stepDrew ?_ | refine Below.stepDrewN ?_ _ | refine Below.step (by assumption) ?_))⟩
  | true =>
    rw [h1] at H1
    cases h2 : goodC c d with
    | false =>
      rw [h2] at H2
      have H := Lib.hid H1; have K := Lib.hid H2; clear H1 H2
      have HE : Hid (areaOk a b c d = false) := by show areaOk a b c d = false; unfold areaOk; simp [h2]
      clear h1 h2
      go_enter Tryd.func22, Tryd.ntmps22
      go_wp2_with fail
      refine (H.out _).mono ?_; rintro e w1 ⟨rfl, hb1⟩; have q0 := box_at hb1 0 rfl; have q1 := box_at hb1 1 rfl; have q2 := box_at hb1 2 rfl; have q3 := box_at hb1 3 rfl
      go_wp2_with fail
      refine (K.out _).mono ?_; rintro e w2 ⟨rfl, hb2⟩; have hb3 := hb1.trans (hb2.mono hb1.size); have r0 := box_at hb3 0 rfl; have r1 := box_at hb3 1 rfl; have r2 := box_at hb3 2 rfl; have r3 := box_at hb3 3 rfl; clear hb3
      go_wp2_with fail
      go_ret
      exact ⟨ret_bool HE.out.symm, by (repeat (first | exact Below.refl _ _ | exact below_box _ _ | refine Below.stepBox ?_ _ | refine Below.stepDrew ?_ | refine Below.stepDrewN ?_ _ | refine Below.step (by assumption) ?_))⟩
    | true =>
      rw [h2] at H2
      have H := Lib.hid H1; have K := Lib.hid H2; clear H1 H2
      by_cases h3 : a ≤ c
      · by_cases h4 : b ≤ d
        · have HE : Hid (areaOk a b c d = decide (cellsN a b c d ≤ 4096)) := by show areaOk a b c d = _; unfold areaOk; simp [h1, h2, h3, h4]
          have HC := Lib.hid (fun w => Area_cells a b c d w h1 h2 h3 h4)
          clear h1 h2
          obtain ⟨z, hz⟩ : ∃ z, z = cellsN a b c d := ⟨_, rfl⟩
          rw [← hz] at HC HE
          clear hz
          go_enter Tryd.func22, Tryd.ntmps22
          go_wp2_with fail
          refine (H.out _).mono ?_; rintro e w1 ⟨rfl, hb1⟩; have q0 := box_at hb1 0 rfl; have q1 := box_at hb1 1 rfl; have q2 := box_at hb1 2 rfl; have q3 := box_at hb1 3 rfl
          go_wp2_with fail
          refine (K.out _).mono ?_; rintro e w2 ⟨rfl, hb2⟩; have hb3 := hb1.trans (hb2.mono hb1.size); have r0 := box_at hb3 0 rfl; have r1 := box_at hb3 1 rfl; have r2 := box_at hb3 2 rfl; have r3 := box_at hb3 3 rfl; clear hb3
          go_wp2_with fail
          refine (HC.out _).mono ?_; rintro e w3 ⟨rfl, hb3⟩
          go_wp2_with fail
          go_ret
          exact ⟨ret_bool HE.out.symm, by (repeat (first | exact Below.refl _ _ | exact below_box _ _ | refine Below.stepBox ?_ _ | refine Below.stepDrew ?_ | refine Below.stepDrewN ?_ _ | refine Below.step (by assumption) ?_))⟩
        · have HE : Hid (areaOk a b c d = false) := by show areaOk a b c d = false; unfold areaOk; simp [h4]
          clear h1 h2
          go_enter Tryd.func22, Tryd.ntmps22
          go_wp2_with fail
          refine (H.out _).mono ?_; rintro e w1 ⟨rfl, hb1⟩; have q0 := box_at hb1 0 rfl; have q1 := box_at hb1 1 rfl; have q2 := box_at hb1 2 rfl; have q3 := box_at hb1 3 rfl
          go_wp2_with fail
          refine (K.out _).mono ?_; rintro e w2 ⟨rfl, hb2⟩; have hb3 := hb1.trans (hb2.mono hb1.size); have r0 := box_at hb3 0 rfl; have r1 := box_at hb3 1 rfl; have r2 := box_at hb3 2 rfl; have r3 := box_at hb3 3 rfl; clear hb3
          go_wp2_with fail
          go_ret
          exact ⟨ret_bool HE.out.symm, by (repeat (first | exact Below.refl _ _ | exact below_box _ _ | refine Below.stepBox ?_ _ | refine Below.stepDrew ?_ | refine Below.stepDrewN ?_ _ | refine Below.step (by assumption) ?_))⟩
      · have HE : Hid (areaOk a b c d = false) := by show areaOk a b c d = false; unfold areaOk; simp [h3]
        clear h1 h2
        go_enter Tryd.func22, Tryd.ntmps22
        go_wp2_with fail
        refine (H.out _).mono ?_; rintro e w1 ⟨rfl, hb1⟩; have q0 := box_at hb1 0 rfl; have q1 := box_at hb1 1 rfl; have q2 := box_at hb1 2 rfl; have q3 := box_at hb1 3 rfl
        go_wp2_with fail
        refine (K.out _).mono ?_; rintro e w2 ⟨rfl, hb2⟩; have hb3 := hb1.trans (hb2.mono hb1.size); have r0 := box_at hb3 0 rfl; have r1 := box_at hb3 1 rfl; have r2 := box_at hb3 2 rfl; have r3 := box_at hb3 3 rfl; clear hb3
        go_wp2_with fail
        go_ret
        exact ⟨ret_bool HE.out.symm, by (repeat (first | exact Below.refl _ _ | exact below_box _ _ | refine Below.stepBox ?_ _ | refine Below.stepDrew ?_ | refine Below.stepDrewN ?_ _ | refine Below.step (by assumption) ?_))⟩
end Go.Proofs.YtpljbpndooilgaaDoor
