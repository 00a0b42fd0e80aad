/- Contracts of functions that the law comes to, written by a program (wip/hp of the repo) out of the translation; Lean checks them. -/
import Derived.Test.YtpljbpndooilgaaDoorPAddrReadsx0
import Derived.Test.YtpljbpndooilgaaDoorPAddrReadsx1
namespace Go.Proofs.YtpljbpndooilgaaDoor.PAddrReads
open Go.RowKit Go.Proofs.YtpljbpndooilgaaDoorW.PrintWords Go.Proofs.YtpljbpndooilgaaDoorW.PrintLast Go.Proofs.YtpljbpndooilgaaDoorW.PrintMore
attribute [local go_sem] max2_int min2_int max_two min_two max_three min_three max_four min_four   -- for this text's walks alone
set_option linter.unusedVariables false
set_option linter.unusedSimpArgs false

/-! ### latticeref04_Ref1: function 47 -/
mutual
def latticeref04_Ref1.j0 : Nat → ByteArray → Int → Bool → Int → Int → Bool → Bool → Option (Int × Int × Bool × Bool × Bool)
  | 0, _, _, _, _, _, _, _ => none
  | k + 1, x0, x5, x21, x104000, x104001, x104002, x104003 => if x21 = true then (latticeref04_Ref1.j1 k x0 (wrap64 (x5 + 1)) x104000 x104001 true x104003) else (latticeref04_Ref1.j1 k x0 x5 x104000 x104001 x104002 x104003)
def latticeref04_Ref1.j1 : Nat → ByteArray → Int → Int → Int → Bool → Bool → Option (Int × Int × Bool × Bool × Bool)
  | 0, _, _, _, _, _, _ => none
  | k + 1, x0, x5, x104000, x104001, x104002, x104003 => latticeref04_Ref1.l0 k x0 x5 0 0 x104000 x104001 x104002 x104003
def latticeref04_Ref1.j4 : Nat → ByteArray → Int → Int → Int → Int → Int → Bool → Bool → Option (Int × Int × Bool × Bool × Bool)
  | 0, _, _, _, _, _, _, _, _ => none
  | k + 1, x0, x5, x6, x7, x104000, x104001, x104002, x104003 => if x6 < 1 then (latticeref04_Ref1.j5 k x0 x5 x7 true x104000 x104001 x104002 x104003) else (latticeref04_Ref1.j5 k x0 x5 x7 (decide (x6 > 3)) x104000 x104001 x104002 x104003)
def latticeref04_Ref1.j5 : Nat → ByteArray → Int → Int → Bool → Int → Int → Bool → Bool → Option (Int × Int × Bool × Bool × Bool)
  | 0, _, _, _, _, _, _, _, _ => none
  | k + 1, x0, x5, x7, x62, x104000, x104001, x104002, x104003 => if x62 = true then (some (0, 0, false, false, false)) else (if x5 < (x0.size : Int) then (if 0 ≤ x5 then (latticeref04_Ref1.j6 k x0 x5 x7 ((bt x0 x5) == 36) x104000 x104001 x104002 x104003) else (none)) else (latticeref04_Ref1.j6 k x0 x5 x7 false x104000 x104001 x104002 x104003))
def latticeref04_Ref1.j6 : Nat → ByteArray → Int → Int → Bool → Int → Int → Bool → Bool → Option (Int × Int × Bool × Bool × Bool)
  | 0, _, _, _, _, _, _, _, _ => none
  | k + 1, x0, x5, x7, x73, x104000, x104001, x104002, x104003 => if x73 = true then (latticeref04_Ref1.j7 k x0 (wrap64 (x5 + 1)) x7 x104000 x104001 x104002 true) else (latticeref04_Ref1.j7 k x0 x5 x7 x104000 x104001 x104002 x104003)
def latticeref04_Ref1.j7 : Nat → ByteArray → Int → Int → Int → Int → Bool → Bool → Option (Int × Int × Bool × Bool × Bool)
  | 0, _, _, _, _, _, _, _ => none
  | k + 1, x0, x5, x7, x104000, x104001, x104002, x104003 => if (wrap64 ((x0.size : Int) - x5)) < 1 then (latticeref04_Ref1.j8 k x0 x5 x7 true x104000 x104001 x104002 x104003) else (if (wrap64 ((x0.size : Int) - x5)) > 5 then (latticeref04_Ref1.j8 k x0 x5 x7 true x104000 x104001 x104002 x104003) else (if 0 ≤ x5 then (if x5 < (x0.size : Int) then (latticeref04_Ref1.j8 k x0 x5 x7 ((bt x0 x5) == 48) x104000 x104001 x104002 x104003) else (none)) else (none)))
def latticeref04_Ref1.j8 : Nat → ByteArray → Int → Int → Bool → Int → Int → Bool → Bool → Option (Int × Int × Bool × Bool × Bool)
  | 0, _, _, _, _, _, _, _, _ => none
  | k + 1, x0, x5, x7, x94, x104000, x104001, x104002, x104003 => if x94 = true then (some (0, 0, false, false, false)) else (latticeref04_Ref1.l1 k x0 x5 x7 0 x104000 x104001 x104002 x104003)
def latticeref04_Ref1.l1 : Nat → ByteArray → Int → Int → Int → Int → Int → Bool → Bool → Option (Int × Int × Bool × Bool × Bool)
  | 0, _, _, _, _, _, _, _, _ => none
  | k + 1, x0, x5, x7, x10, x104000, x104001, x104002, x104003 => if x5 < (x0.size : Int) then (if 0 ≤ x5 then ((latticeref04_digit.f (bt x0 x5)).bind fun t105 => (if t105 = true then (latticeref04_Ref1.l1 k x0 (wrap64 (x5 + 1)) x7 (wrap64 ((wrap64 (10 * x10)) + (((bt x0 x5) - 48) % 256))) x104000 x104001 x104002 x104003) else (some (0, 0, false, false, false)))) else (none)) else (some (wrap64 (x7 - 1), wrap64 (x10 - 1), x104002, x104003, true))
def latticeref04_Ref1.l0 : Nat → ByteArray → Int → Int → Int → Int → Int → Bool → Bool → Option (Int × Int × Bool × Bool × Bool)
  | 0, _, _, _, _, _, _, _, _ => none
  | k + 1, x0, x5, x6, x7, x104000, x104001, x104002, x104003 => if x5 < (x0.size : Int) then (latticeref04_Ref1.j3 k x0 x5 x6 x7 (decide (x6 < 4)) x104000 x104001 x104002 x104003) else (latticeref04_Ref1.j3 k x0 x5 x6 x7 false x104000 x104001 x104002 x104003)
def latticeref04_Ref1.j3 : Nat → ByteArray → Int → Int → Int → Bool → Int → Int → Bool → Bool → Option (Int × Int × Bool × Bool × Bool)
  | 0, _, _, _, _, _, _, _, _, _ => none
  | k + 1, x0, x5, x6, x7, x32, x104000, x104001, x104002, x104003 => if x32 = true then (if 0 ≤ x5 then (if x5 < (x0.size : Int) then ((latticeref04_letter.f (bt x0 x5)).bind fun t104 => (if t104 = true then (if (bt x0 x5) ≥ 97 then (latticeref04_Ref1.l0 k x0 (wrap64 (x5 + 1)) (wrap64 (x6 + 1)) (wrap64 ((wrap64 ((wrap64 (26 * x7)) + (((((bt x0 x5) - 32) % 256) - 65) % 256))) + 1)) x104000 x104001 x104002 x104003) else (latticeref04_Ref1.l0 k x0 (wrap64 (x5 + 1)) (wrap64 (x6 + 1)) (wrap64 ((wrap64 ((wrap64 (26 * x7)) + (((bt x0 x5) - 65) % 256))) + 1)) x104000 x104001 x104002 x104003)) else (latticeref04_Ref1.j4 k x0 x5 x6 x7 x104000 x104001 x104002 x104003))) else (none)) else (none)) else (latticeref04_Ref1.j4 k x0 x5 x6 x7 x104000 x104001 x104002 x104003)
end
def latticeref04_Ref1.f (k : Nat) (a0 : ByteArray) : Option (Int × Int × Bool × Bool × Bool) := if 0 < (a0.size : Int) then (latticeref04_Ref1.j0 k a0 0 ((bt a0 0) == 36) 0 0 false false) else (latticeref04_Ref1.j0 k a0 0 false 0 0 false false)
theorem latticeref04_Ref1.mono_l : ∀ k, (∀ y0 y1 y2 y3 y4 y5 y6, LeO (latticeref04_Ref1.j0 k y0 y1 y2 y3 y4 y5 y6) (latticeref04_Ref1.j0 (k + 1) y0 y1 y2 y3 y4 y5 y6)) ∧ (∀ y0 y1 y2 y3 y4 y5, LeO (latticeref04_Ref1.j1 k y0 y1 y2 y3 y4 y5) (latticeref04_Ref1.j1 (k + 1) y0 y1 y2 y3 y4 y5)) ∧ (∀ y0 y1 y2 y3 y4 y5 y6 y7, LeO (latticeref04_Ref1.j4 k y0 y1 y2 y3 y4 y5 y6 y7) (latticeref04_Ref1.j4 (k + 1) y0 y1 y2 y3 y4 y5 y6 y7)) ∧ (∀ y0 y1 y2 y3 y4 y5 y6 y7, LeO (latticeref04_Ref1.j5 k y0 y1 y2 y3 y4 y5 y6 y7) (latticeref04_Ref1.j5 (k + 1) y0 y1 y2 y3 y4 y5 y6 y7)) ∧ (∀ y0 y1 y2 y3 y4 y5 y6 y7, LeO (latticeref04_Ref1.j6 k y0 y1 y2 y3 y4 y5 y6 y7) (latticeref04_Ref1.j6 (k + 1) y0 y1 y2 y3 y4 y5 y6 y7)) ∧ (∀ y0 y1 y2 y3 y4 y5 y6, LeO (latticeref04_Ref1.j7 k y0 y1 y2 y3 y4 y5 y6) (latticeref04_Ref1.j7 (k + 1) y0 y1 y2 y3 y4 y5 y6)) ∧ (∀ y0 y1 y2 y3 y4 y5 y6 y7, LeO (latticeref04_Ref1.j8 k y0 y1 y2 y3 y4 y5 y6 y7) (latticeref04_Ref1.j8 (k + 1) y0 y1 y2 y3 y4 y5 y6 y7)) ∧ (∀ y0 y1 y2 y3 y4 y5 y6 y7, LeO (latticeref04_Ref1.l1 k y0 y1 y2 y3 y4 y5 y6 y7) (latticeref04_Ref1.l1 (k + 1) y0 y1 y2 y3 y4 y5 y6 y7)) ∧ (∀ y0 y1 y2 y3 y4 y5 y6 y7, LeO (latticeref04_Ref1.l0 k y0 y1 y2 y3 y4 y5 y6 y7) (latticeref04_Ref1.l0 (k + 1) y0 y1 y2 y3 y4 y5 y6 y7)) ∧ (∀ y0 y1 y2 y3 y4 y5 y6 y7 y8, LeO (latticeref04_Ref1.j3 k y0 y1 y2 y3 y4 y5 y6 y7 y8) (latticeref04_Ref1.j3 (k + 1) y0 y1 y2 y3 y4 y5 y6 y7 y8))
  | 0 => ⟨fun _ _ _ _ _ _ _ r h => by simp [latticeref04_Ref1.j0] at h, fun _ _ _ _ _ _ r h => by simp [latticeref04_Ref1.j1] at h, fun _ _ _ _ _ _ _ _ r h => by simp [latticeref04_Ref1.j4] at h, fun _ _ _ _ _ _ _ _ r h => by simp [latticeref04_Ref1.j5] at h, fun _ _ _ _ _ _ _ _ r h => by simp [latticeref04_Ref1.j6] at h, fun _ _ _ _ _ _ _ r h => by simp [latticeref04_Ref1.j7] at h, fun _ _ _ _ _ _ _ _ r h => by simp [latticeref04_Ref1.j8] at h, fun _ _ _ _ _ _ _ _ r h => by simp [latticeref04_Ref1.l1] at h, fun _ _ _ _ _ _ _ _ r h => by simp [latticeref04_Ref1.l0] at h, fun _ _ _ _ _ _ _ _ _ r h => by simp [latticeref04_Ref1.j3] at h⟩
  | k + 1 => by
    obtain ⟨ih0, ih1, ih2, ih3, ih4, ih5, ih6, ih7, ih8, ih9⟩ := latticeref04_Ref1.mono_l k
    refine ⟨?_, ?_, ?_, ?_, ?_, ?_, ?_, ?_, ?_, ?_⟩
    · intro y0 y1 y2 y3 y4 y5 y6
      unfold latticeref04_Ref1.j0
      repeat' first
      | (with_reducible exact ih0 _ _ _ _ _ _ _)
      | (with_reducible exact ih1 _ _ _ _ _ _)
      | (with_reducible exact ih2 _ _ _ _ _ _ _ _)
      | (with_reducible exact ih3 _ _ _ _ _ _ _ _)
      | (with_reducible exact ih4 _ _ _ _ _ _ _ _)
      | (with_reducible exact ih5 _ _ _ _ _ _ _)
      | (with_reducible exact ih6 _ _ _ _ _ _ _ _)
      | (with_reducible exact ih7 _ _ _ _ _ _ _ _)
      | (with_reducible exact ih8 _ _ _ _ _ _ _ _)
      | (with_reducible exact ih9 _ _ _ _ _ _ _ _ _)
      | (with_reducible exact LeO.refl _)
      | (with_reducible exact LeO.none _)
      | (with_reducible refine LeO.ite ?_ ?_)
      | (with_reducible refine LeO.bind ?_ (fun _ => ?_))
      | exact ih0 _ _ _ _ _ _ _
      | exact ih1 _ _ _ _ _ _
      | exact ih2 _ _ _ _ _ _ _ _
      | exact ih3 _ _ _ _ _ _ _ _
      | exact ih4 _ _ _ _ _ _ _ _
      | exact ih5 _ _ _ _ _ _ _
      | exact ih6 _ _ _ _ _ _ _ _
      | exact ih7 _ _ _ _ _ _ _ _
      | exact ih8 _ _ _ _ _ _ _ _
      | exact ih9 _ _ _ _ _ _ _ _ _
      | exact LeO.none _
      | refine LeO.ite ?_ ?_
      | refine LeO.bind ?_ (fun _ => ?_)
    · intro y0 y1 y2 y3 y4 y5
      unfold latticeref04_Ref1.j1
      repeat' first
      | (with_reducible exact ih0 _ _ _ _ _ _ _)
      | (with_reducible exact ih1 _ _ _ _ _ _)
      | (with_reducible exact ih2 _ _ _ _ _ _ _ _)
      | (with_reducible exact ih3 _ _ _ _ _ _ _ _)
      | (with_reducible exact ih4 _ _ _ _ _ _ _ _)
      | (with_reducible exact ih5 _ _ _ _ _ _ _)
      | (with_reducible exact ih6 _ _ _ _ _ _ _ _)
      | (with_reducible exact ih7 _ _ _ _ _ _ _ _)
      | (with_reducible exact ih8 _ _ _ _ _ _ _ _)
      | (with_reducible exact ih9 _ _ _ _ _ _ _ _ _)
      | (with_reducible exact LeO.refl _)
      | (with_reducible exact LeO.none _)
      | (with_reducible refine LeO.ite ?_ ?_)
      | (with_reducible refine LeO.bind ?_ (fun _ => ?_))
      | exact ih0 _ _ _ _ _ _ _
      | exact ih1 _ _ _ _ _ _
      | exact ih2 _ _ _ _ _ _ _ _
      | exact ih3 _ _ _ _ _ _ _ _
      | exact ih4 _ _ _ _ _ _ _ _
      | exact ih5 _ _ _ _ _ _ _
      | exact ih6 _ _ _ _ _ _ _ _
      | exact ih7 _ _ _ _ _ _ _ _
      | exact ih8 _ _ _ _ _ _ _ _
      | exact ih9 _ _ _ _ _ _ _ _ _
      | exact LeO.none _
      | refine LeO.ite ?_ ?_
      | refine LeO.bind ?_ (fun _ => ?_)
    · intro y0 y1 y2 y3 y4 y5 y6 y7
      unfold latticeref04_Ref1.j4
      repeat' first
      | (with_reducible exact ih0 _ _ _ _ _ _ _)
      | (with_reducible exact ih1 _ _ _ _ _ _)
      | (with_reducible exact ih2 _ _ _ _ _ _ _ _)
      | (with_reducible exact ih3 _ _ _ _ _ _ _ _)
      | (with_reducible exact ih4 _ _ _ _ _ _ _ _)
      | (with_reducible exact ih5 _ _ _ _ _ _ _)
      | (with_reducible exact ih6 _ _ _ _ _ _ _ _)
      | (with_reducible exact ih7 _ _ _ _ _ _ _ _)
      | (with_reducible exact ih8 _ _ _ _ _ _ _ _)
      | (with_reducible exact ih9 _ _ _ _ _ _ _ _ _)
      | (with_reducible exact LeO.refl _)
      | (with_reducible exact LeO.none _)
      | (with_reducible refine LeO.ite ?_ ?_)
      | (with_reducible refine LeO.bind ?_ (fun _ => ?_))
      | exact ih0 _ _ _ _ _ _ _
      | exact ih1 _ _ _ _ _ _
      | exact ih2 _ _ _ _ _ _ _ _
      | exact ih3 _ _ _ _ _ _ _ _
      | exact ih4 _ _ _ _ _ _ _ _
      | exact ih5 _ _ _ _ _ _ _
      | exact ih6 _ _ _ _ _ _ _ _
      | exact ih7 _ _ _ _ _ _ _ _
      | exact ih8 _ _ _ _ _ _ _ _
      | exact ih9 _ _ _ _ _ _ _ _ _
      | exact LeO.none _
      | refine LeO.ite ?_ ?_
      | refine LeO.bind ?_ (fun _ => ?_)
    · intro y0 y1 y2 y3 y4 y5 y6 y7
      unfold latticeref04_Ref1.j5
      repeat' first
      | (with_reducible exact ih0 _ _ _ _ _ _ _)
      | (with_reducible exact ih1 _ _ _ _ _ _)
      | (with_reducible exact ih2 _ _ _ _ _ _ _ _)
      | (with_reducible exact ih3 _ _ _ _ _ _ _ _)
      | (with_reducible exact ih4 _ _ _ _ _ _ _ _)
      | (with_reducible exact ih5 _ _ _ _ _ _ _)
      | (with_reducible exact ih6 _ _ _ _ _ _ _ _)
      | (with_reducible exact ih7 _ _ _ _ _ _ _ _)
      | (with_reducible exact ih8 _ _ _ _ _ _ _ _)
      | (with_reducible exact ih9 _ _ _ _ _ _ _ _ _)
      | (with_reducible exact LeO.refl _)
      | (with_reducible exact LeO.none _)
      | (with_reducible refine LeO.ite ?_ ?_)
      | (with_reducible refine LeO.bind ?_ (fun _ => ?_))
      | exact ih0 _ _ _ _ _ _ _
      | exact ih1 _ _ _ _ _ _
      | exact ih2 _ _ _ _ _ _ _ _
      | exact ih3 _ _ _ _ _ _ _ _
      | exact ih4 _ _ _ _ _ _ _ _
      | exact ih5 _ _ _ _ _ _ _
      | exact ih6 _ _ _ _ _ _ _ _
      | exact ih7 _ _ _ _ _ _ _ _
      | exact ih8 _ _ _ _ _ _ _ _
      | exact ih9 _ _ _ _ _ _ _ _ _
      | exact LeO.none _
      | refine LeO.ite ?_ ?_
      | refine LeO.bind ?_ (fun _ => ?_)
    · intro y0 y1 y2 y3 y4 y5 y6 y7
      unfold latticeref04_Ref1.j6
      repeat' first
      | (with_reducible exact ih0 _ _ _ _ _ _ _)
      | (with_reducible exact ih1 _ _ _ _ _ _)
      | (with_reducible exact ih2 _ _ _ _ _ _ _ _)
      | (with_reducible exact ih3 _ _ _ _ _ _ _ _)
      | (with_reducible exact ih4 _ _ _ _ _ _ _ _)
      | (with_reducible exact ih5 _ _ _ _ _ _ _)
      | (with_reducible exact ih6 _ _ _ _ _ _ _ _)
      | (with_reducible exact ih7 _ _ _ _ _ _ _ _)
      | (with_reducible exact ih8 _ _ _ _ _ _ _ _)
      | (with_reducible exact ih9 _ _ _ _ _ _ _ _ _)
      | (with_reducible exact LeO.refl _)
      | (with_reducible exact LeO.none _)
      | (with_reducible refine LeO.ite ?_ ?_)
      | (with_reducible refine LeO.bind ?_ (fun _ => ?_))
      | exact ih0 _ _ _ _ _ _ _
      | exact ih1 _ _ _ _ _ _
      | exact ih2 _ _ _ _ _ _ _ _
      | exact ih3 _ _ _ _ _ _ _ _
      | exact ih4 _ _ _ _ _ _ _ _
      | exact ih5 _ _ _ _ _ _ _
      | exact ih6 _ _ _ _ _ _ _ _
      | exact ih7 _ _ _ _ _ _ _ _
      | exact ih8 _ _ _ _ _ _ _ _
      | exact ih9 _ _ _ _ _ _ _ _ _
      | exact LeO.none _
      | refine LeO.ite ?_ ?_
      | refine LeO.bind ?_ (fun _ => ?_)
    · intro y0 y1 y2 y3 y4 y5 y6
      unfold latticeref04_Ref1.j7
      repeat' first
      | (with_reducible exact ih0 _ _ _ _ _ _ _)
      | (with_reducible exact ih1 _ _ _ _ _ _)
      | (with_reducible exact ih2 _ _ _ _ _ _ _ _)
      | (with_reducible exact ih3 _ _ _ _ _ _ _ _)
      | (with_reducible exact ih4 _ _ _ _ _ _ _ _)
      | (with_reducible exact ih5 _ _ _ _ _ _ _)
      | (with_reducible exact ih6 _ _ _ _ _ _ _ _)
      | (with_reducible exact ih7 _ _ _ _ _ _ _ _)
      | (with_reducible exact ih8 _ _ _ _ _ _ _ _)
      | (with_reducible exact ih9 _ _ _ _ _ _ _ _ _)
      | (with_reducible exact LeO.refl _)
      | (with_reducible exact LeO.none _)
      | (with_reducible refine LeO.ite ?_ ?_)
      | (with_reducible refine LeO.bind ?_ (fun _ => ?_))
      | exact ih0 _ _ _ _ _ _ _
      | exact ih1 _ _ _ _ _ _
      | exact ih2 _ _ _ _ _ _ _ _
      | exact ih3 _ _ _ _ _ _ _ _
      | exact ih4 _ _ _ _ _ _ _ _
      | exact ih5 _ _ _ _ _ _ _
      | exact ih6 _ _ _ _ _ _ _ _
      | exact ih7 _ _ _ _ _ _ _ _
      | exact ih8 _ _ _ _ _ _ _ _
      | exact ih9 _ _ _ _ _ _ _ _ _
      | exact LeO.none _
      | refine LeO.ite ?_ ?_
      | refine LeO.bind ?_ (fun _ => ?_)
    · intro y0 y1 y2 y3 y4 y5 y6 y7
      unfold latticeref04_Ref1.j8
      repeat' first
      | (with_reducible exact ih0 _ _ _ _ _ _ _)
      | (with_reducible exact ih1 _ _ _ _ _ _)
      | (with_reducible exact ih2 _ _ _ _ _ _ _ _)
      | (with_reducible exact ih3 _ _ _ _ _ _ _ _)
      | (with_reducible exact ih4 _ _ _ _ _ _ _ _)
      | (with_reducible exact ih5 _ _ _ _ _ _ _)
      | (with_reducible exact ih6 _ _ _ _ _ _ _ _)
      | (with_reducible exact ih7 _ _ _ _ _ _ _ _)
      | (with_reducible exact ih8 _ _ _ _ _ _ _ _)
      | (with_reducible exact ih9 _ _ _ _ _ _ _ _ _)
      | (with_reducible exact LeO.refl _)
      | (with_reducible exact LeO.none _)
      | (with_reducible refine LeO.ite ?_ ?_)
      | (with_reducible refine LeO.bind ?_ (fun _ => ?_))
      | exact ih0 _ _ _ _ _ _ _
      | exact ih1 _ _ _ _ _ _
      | exact ih2 _ _ _ _ _ _ _ _
      | exact ih3 _ _ _ _ _ _ _ _
      | exact ih4 _ _ _ _ _ _ _ _
      | exact ih5 _ _ _ _ _ _ _
      | exact ih6 _ _ _ _ _ _ _ _
      | exact ih7 _ _ _ _ _ _ _ _
      | exact ih8 _ _ _ _ _ _ _ _
      | exact ih9 _ _ _ _ _ _ _ _ _
      | exact LeO.none _
      | refine LeO.ite ?_ ?_
      | refine LeO.bind ?_ (fun _ => ?_)
    · intro y0 y1 y2 y3 y4 y5 y6 y7
      unfold latticeref04_Ref1.l1
      repeat' first
      | (with_reducible exact ih0 _ _ _ _ _ _ _)
      | (with_reducible exact ih1 _ _ _ _ _ _)
      | (with_reducible exact ih2 _ _ _ _ _ _ _ _)
      | (with_reducible exact ih3 _ _ _ _ _ _ _ _)
      | (with_reducible exact ih4 _ _ _ _ _ _ _ _)
      | (with_reducible exact ih5 _ _ _ _ _ _ _)
      | (with_reducible exact ih6 _ _ _ _ _ _ _ _)
      | (with_reducible exact ih7 _ _ _ _ _ _ _ _)
      | (with_reducible exact ih8 _ _ _ _ _ _ _ _)
      | (with_reducible exact ih9 _ _ _ _ _ _ _ _ _)
      | (with_reducible exact LeO.refl _)
      | (with_reducible exact LeO.none _)
      | (with_reducible refine LeO.ite ?_ ?_)
      | (with_reducible refine LeO.bind ?_ (fun _ => ?_))
      | exact ih0 _ _ _ _ _ _ _
      | exact ih1 _ _ _ _ _ _
      | exact ih2 _ _ _ _ _ _ _ _
      | exact ih3 _ _ _ _ _ _ _ _
      | exact ih4 _ _ _ _ _ _ _ _
      | exact ih5 _ _ _ _ _ _ _
      | exact ih6 _ _ _ _ _ _ _ _
      | exact ih7 _ _ _ _ _ _ _ _
      | exact ih8 _ _ _ _ _ _ _ _
      | exact ih9 _ _ _ _ _ _ _ _ _
      | exact LeO.none _
      | refine LeO.ite ?_ ?_
      | refine LeO.bind ?_ (fun _ => ?_)
    · intro y0 y1 y2 y3 y4 y5 y6 y7
      unfold latticeref04_Ref1.l0
      repeat' first
      | (with_reducible exact ih0 _ _ _ _ _ _ _)
      | (with_reducible exact ih1 _ _ _ _ _ _)
      | (with_reducible exact ih2 _ _ _ _ _ _ _ _)
      | (with_reducible exact ih3 _ _ _ _ _ _ _ _)
      | (with_reducible exact ih4 _ _ _ _ _ _ _ _)
      | (with_reducible exact ih5 _ _ _ _ _ _ _)
      | (with_reducible exact ih6 _ _ _ _ _ _ _ _)
      | (with_reducible exact ih7 _ _ _ _ _ _ _ _)
      | (with_reducible exact ih8 _ _ _ _ _ _ _ _)
      | (with_reducible exact ih9 _ _ _ _ _ _ _ _ _)
      | (with_reducible exact LeO.refl _)
      | (with_reducible exact LeO.none _)
      | (with_reducible refine LeO.ite ?_ ?_)
      | (with_reducible refine LeO.bind ?_ (fun _ => ?_))
      | exact ih0 _ _ _ _ _ _ _
      | exact ih1 _ _ _ _ _ _
      | exact ih2 _ _ _ _ _ _ _ _
      | exact ih3 _ _ _ _ _ _ _ _
      | exact ih4 _ _ _ _ _ _ _ _
      | exact ih5 _ _ _ _ _ _ _
      | exact ih6 _ _ _ _ _ _ _ _
      | exact ih7 _ _ _ _ _ _ _ _
      | exact ih8 _ _ _ _ _ _ _ _
      | exact ih9 _ _ _ _ _ _ _ _ _
      | exact LeO.none _
      | refine LeO.ite ?_ ?_
      | refine LeO.bind ?_ (fun _ => ?_)
    · intro y0 y1 y2 y3 y4 y5 y6 y7 y8
      unfold latticeref04_Ref1.j3
      repeat' first
      | (with_reducible exact ih0 _ _ _ _ _ _ _)
      | (with_reducible exact ih1 _ _ _ _ _ _)
      | (with_reducible exact ih2 _ _ _ _ _ _ _ _)
      | (with_reducible exact ih3 _ _ _ _ _ _ _ _)
      | (with_reducible exact ih4 _ _ _ _ _ _ _ _)
      | (with_reducible exact ih5 _ _ _ _ _ _ _)
      | (with_reducible exact ih6 _ _ _ _ _ _ _ _)
      | (with_reducible exact ih7 _ _ _ _ _ _ _ _)
      | (with_reducible exact ih8 _ _ _ _ _ _ _ _)
      | (with_reducible exact ih9 _ _ _ _ _ _ _ _ _)
      | (with_reducible exact LeO.refl _)
      | (with_reducible exact LeO.none _)
      | (with_reducible refine LeO.ite ?_ ?_)
      | (with_reducible refine LeO.bind ?_ (fun _ => ?_))
      | exact ih0 _ _ _ _ _ _ _
      | exact ih1 _ _ _ _ _ _
      | exact ih2 _ _ _ _ _ _ _ _
      | exact ih3 _ _ _ _ _ _ _ _
      | exact ih4 _ _ _ _ _ _ _ _
      | exact ih5 _ _ _ _ _ _ _
      | exact ih6 _ _ _ _ _ _ _ _
      | exact ih7 _ _ _ _ _ _ _ _
      | exact ih8 _ _ _ _ _ _ _ _
      | exact ih9 _ _ _ _ _ _ _ _ _
      | exact LeO.none _
      | refine LeO.ite ?_ ?_
      | refine LeO.bind ?_ (fun _ => ?_)
theorem latticeref04_Ref1.mono : ∀ a0 k, LeO (latticeref04_Ref1.f k a0) (latticeref04_Ref1.f (k + 1) a0) := by
  intro a0 k
  obtain ⟨ih0, ih1, ih2, ih3, ih4, ih5, ih6, ih7, ih8, ih9⟩ := latticeref04_Ref1.mono_l k
  unfold latticeref04_Ref1.f
  repeat' first
      | (with_reducible exact ih0 _ _ _ _ _ _ _)
      | (with_reducible exact ih1 _ _ _ _ _ _)
      | (with_reducible exact ih2 _ _ _ _ _ _ _ _)
      | (with_reducible exact ih3 _ _ _ _ _ _ _ _)
      | (with_reducible exact ih4 _ _ _ _ _ _ _ _)
      | (with_reducible exact ih5 _ _ _ _ _ _ _)
      | (with_reducible exact ih6 _ _ _ _ _ _ _ _)
      | (with_reducible exact ih7 _ _ _ _ _ _ _ _)
      | (with_reducible exact ih8 _ _ _ _ _ _ _ _)
      | (with_reducible exact ih9 _ _ _ _ _ _ _ _ _)
      | (with_reducible exact LeO.refl _)
      | (with_reducible exact LeO.none _)
      | (with_reducible refine LeO.ite ?_ ?_)
      | (with_reducible refine LeO.bind ?_ (fun _ => ?_))
      | exact ih0 _ _ _ _ _ _ _
      | exact ih1 _ _ _ _ _ _
      | exact ih2 _ _ _ _ _ _ _ _
      | exact ih3 _ _ _ _ _ _ _ _
      | exact ih4 _ _ _ _ _ _ _ _
      | exact ih5 _ _ _ _ _ _ _
      | exact ih6 _ _ _ _ _ _ _ _
      | exact ih7 _ _ _ _ _ _ _ _
      | exact ih8 _ _ _ _ _ _ _ _
      | exact ih9 _ _ _ _ _ _ _ _ _
      | exact LeO.none _
      | refine LeO.ite ?_ ?_
      | refine LeO.bind ?_ (fun _ => ?_)
set_option maxHeartbeats 8000000 in
set_option maxRecDepth 100000 in
theorem latticeref04_Ref1.calls (k : Nat) (a0 : ByteArray) (r1 : Int) (r2 : Int) (r3 : Bool) (r4 : Bool) (r5 : Bool) (w : World) (h : latticeref04_Ref1.f k a0 = some (r1, r2, r3, r4, r5)) :
    Calls Tryd.prog 47 #[.string a0] w fun e w' => e = .returned (.tuple #[.agg #[.int .i64 r1, .int .i64 r2, .bool r3, .bool r4], .bool r5]) ∧ Below w.heap.size w w' := by
  have hu33 := Tryd.underlying33
  have HB := aM (Below.refl w.heap.size w)
  have H : (if 0 < (a0.size : Int) then (latticeref04_Ref1.j0 k a0 0 ((bt a0 0) == 36) 0 0 false false) else (latticeref04_Ref1.j0 k a0 0 false 0 0 false false)) = some (r1, r2, r3, r4, r5) := h
  clear h; have HC2 := aM H; clear H
  go_enter Tryd.func47, Tryd.ntmps47
  go_upto_region 3 with (first | ((with_reducible refine gate_dst (N := 2) rfl ?_); refine box_event ?hg (N := 2) ?hd (cs := #[.int .i64 0, .int .i64 0, .bool false, .bool false]) (t := 33) ?hr ?_; (case hd => rfl); (case hg => rfl); (case hr => go_simp; try rfl); intro gb102 hg w3 hbox hb; have n0_ := aM (below_step hbA hb); have n1_ := aM (hbox); have n2_ := szA hg; have n3_ := szA hg; clear HB; have HB := n0_; have BK102 := n1_; have GW102 := n2_; have GE102 := n3_; clear n0_ n1_ n2_ n3_; clear hb hbox hg) | ((with_reducible refine gate_dst (N := 4) rfl ?_); refine box_event ?hg (N := 4) ?hd (cs := #[.int .i64 0, .int .i64 0, .bool false, .bool false]) (t := 33) ?hr ?_; (case hd => rfl); (case hg => rfl); (case hr => go_simp; try rfl); intro gb103 hg w4 hbox hb; have n0_ := aM (bbA BK102 hb); have n1_ := aM (below_step hbA hb); have n2_ := aM (hbox); have n3_ := szA hg; have n4_ := szA hg; have n5_ := neA BK102 hg; have n6_ := neB BK102 hg; clear BK102; clear HB; have BK102 := n0_; have HB := n1_; have BK103 := n2_; have GW103 := n3_; have GE103 := n4_; have NB102_103 := n5_; have NB103_102 := n6_; clear n0_ n1_ n2_ n3_ n4_ n5_ n6_; clear hb hbox hg))
  (try simp only [Act.put, List.setIfInBounds_toArray, List.set_cons_zero, List.set_cons_succ])
  go_cut [21] (fun v21 wc => ∃ (kq : Nat) (x21_1 : Bool), v21 = .bool x21_1 ∧ Aside0 (latticeref04_Ref1.j0 kq a0 0 x21_1 0 0 false false = some (r1, r2, r3, r4, r5)) ∧ Aside0 (kq ≤ k) ∧ Aside0 (wc.heap[gb102]? = some (.cells #[.int .i64 0, .int .i64 0, .bool false, .bool false] 33 (0, 0))) ∧ Aside0 (wc.heap[gb103]? = some (.cells #[.int .i64 0, .int .i64 0, .bool false, .bool false] 33 (0, 0))) ∧ Aside0 (Below w.heap.size w wc))
  case first =>
    have H := HC2.out; clear HC2
    by_cases c5 : 0 < (a0.size : Int)
    · rw [if_pos c5] at H
      have c5b0 : decide (0 < (a0.size : Int)) = true := decide_eq_true c5
      have c5b1 : decide (0 < a0.size) = true := decide_eq_true (by omega)
      clear c5
      (first | rw [c5b0] | (simp only [i64_w, i32_w]; rw [c5b0]) | skip)
      have H' := aM H
      clear H
      have p6 : 0 ≤ (0 : Int) := (by omega)
      have q6 : 0 < a0.size := (by have : (0 : Int) < (a0.size : Int) := of_decide_eq_true (by first | (with_reducible assumption) | assumption); omega)
      have hx6 : ∀ h : 0 < a0.size, ((a0[0]'h).toNat : Int) = bt a0 0 := bt_at a0 0
      clear p6
      have qi6 : (0 < (a0.size : Int)) = True := eq_true (of_decide_eq_true (by first | (with_reducible assumption) | assumption))
      replace q6 := eq_true q6
      go_wp2
      go_meet
      case rel => exact ⟨_, (((bt a0 0) == 36)), (by first | rfl | (unfold wrap64; rfl) | (simp; done) | (simp [*]; done)), H', ⟨by first | omega | exact Nat.le_refl _⟩, ⟨by (with_reducible repeat (first | apply bN | apply bD | apply bA)); exact BK102.out⟩, ⟨by (with_reducible repeat (first | apply bN | apply bD | apply bA)); exact BK103.out⟩, ⟨hbA⟩⟩
    · rw [if_neg c5] at H
      have c5b0 : decide (0 < (a0.size : Int)) = false := decide_eq_false c5
      have c5b1 : decide (0 < a0.size) = false := decide_eq_false (by omega)
      clear c5
      (first | rw [c5b0] | (simp only [i64_w, i32_w]; rw [c5b0]) | skip)
      have H' := aM H
      clear H
      go_wp2
      go_meet
      case rel => exact ⟨_, (false), (by first | rfl | (unfold wrap64; rfl) | (simp; done) | (simp [*]; done)), H', ⟨by first | omega | exact Nat.le_refl _⟩, ⟨by (with_reducible repeat (first | apply bN | apply bD | apply bA)); exact BK102.out⟩, ⟨by (with_reducible repeat (first | apply bN | apply bD | apply bA)); exact BK103.out⟩, ⟨hbA⟩⟩
  case rest =>
    clear HC2; (try clear p2); (try clear c4); (try clear c5); (try clear c5b0); (try clear c5b1); (try clear p6); (try clear q6); (try clear hx6); (try clear qi6); (try clear p6); (try clear q6)
    obtain ⟨kq, x21_1, rfl, HA, HJ1, BK102, BK103, HB⟩ := hcut
    cases kq with
    | zero => exact absurd HA.out (by simp [latticeref04_Ref1.j0])
    | succ kj1 =>
      have H := HA.out; clear HA
      simp only [latticeref04_Ref1.j0] at H
      have HC7 := aM H; clear H
      go_upto_if 21 with (fail)
      go_cut [5] (fun v5 wc => ∃ (kq : Nat) (x5_6 : Int) (x104002_6 : Bool), v5 = .int .i64 x5_6 ∧ Aside0 (latticeref04_Ref1.j1 kq a0 x5_6 0 0 x104002_6 false = some (r1, r2, r3, r4, r5)) ∧ Aside0 (kq ≤ kj1) ∧ Aside0 (wc.heap[gb102]? = some (.cells #[.int .i64 0, .int .i64 0, .bool false, .bool false] 33 (0, 0))) ∧ Aside0 (wc.heap[gb103]? = some (.cells #[.int .i64 0, .int .i64 0, .bool x104002_6, .bool false] 33 (0, 0))) ∧ Aside0 (Below w.heap.size w wc))
      case first =>
        have H := HC7.out; clear HC7
        by_cases c8 : x21_1 = true
        · subst c8
          have H1 : (latticeref04_Ref1.j1 kj1 a0 (wrap64 (0 + 1)) 0 0 true false) = some (r1, r2, r3, r4, r5) := by rw [if_pos rfl] at H; exact H
          clear H; have H := H1; clear H1
          have H' := aM H
          clear H; have hnb9 := NB103_102.out; have hnc9 := NB102_103.out; have hcz10_0 := hzA BK103 0; have hcz10_1 := hzA BK103 1; have hcz10_2 := hzA BK103 2; have hcz10_3 := hzA BK103 3; have hfz10_0 := fzA BK103 0; have hfz10_1 := fzA BK103 1; have hfz10_2 := fzA BK103 2; have hfz10_3 := fzA BK103 3
          go_wp2
          go_meet
          case rel => exact ⟨_, (wrap64 (0 + 1)), (true), (by first | rfl | (unfold wrap64; rfl) | (simp; done) | (simp [*]; done)), H', ⟨by have := HJ1.out; first | omega | exact Nat.le_refl _⟩, ⟨by (with_reducible repeat (first | apply bN | apply bD | apply bA)); refine blk_far ?_ NB102_103.out _; (with_reducible repeat (first | apply bN | apply bD | apply bA)); exact BK102.out⟩, ⟨by (with_reducible repeat (first | apply bN | apply bD | apply bA)); refine blk_put (cs := #[.int .i64 0, .int .i64 0, .bool false, .bool false]) ?_ 2 _ rfl; (with_reducible repeat (first | apply bN | apply bD | apply bA)); exact BK103.out⟩, ⟨hbA⟩⟩
        · replace c8 := Bool.eq_false_iff.mpr c8
          subst c8
          have H1 : (latticeref04_Ref1.j1 kj1 a0 0 0 0 false false) = some (r1, r2, r3, r4, r5) := by rw [if_neg (show ¬ (false = true) by decide)] at H; exact H
          clear H; have H := H1; clear H1
          have H' := aM H
          clear H
          go_wp2
          go_meet
          case rel => exact ⟨_, (0), (false), (by first | rfl | (unfold wrap64; rfl) | (simp; done) | (simp [*]; done)), H', ⟨by have := HJ1.out; first | omega | exact Nat.le_refl _⟩, ⟨by (with_reducible repeat (first | apply bN | apply bD | apply bA)); exact BK102.out⟩, ⟨by (with_reducible repeat (first | apply bN | apply bD | apply bA)); exact BK103.out⟩, ⟨hbA⟩⟩
      case rest =>
        clear HC7; (try clear p2); (try clear c4); (try clear c5); (try clear c5b0); (try clear c5b1); (try clear p6); (try clear q6); (try clear hx6); (try clear qi6); (try clear c8); (try clear c9); (try clear hcz10_0); (try clear hcz10_1); (try clear hcz10_2); (try clear hcz10_3); (try clear hfz10_0); (try clear hfz10_1); (try clear hfz10_2); (try clear hfz10_3); (try clear p2); (try clear p6); (try clear q6)
        obtain ⟨kq, x5_6, x104002_6, rfl, HA, HJ6, BK102, BK103, HB⟩ := hcut
        cases kq with
        | zero => exact absurd HA.out (by simp [latticeref04_Ref1.j1])
        | succ kj6 =>
          have H := HA.out; clear HA
          simp only [latticeref04_Ref1.j1] at H
          have HC11 := aM H; clear H
          go_upto_block 0 with (fail)
          go_cut [5, 6, 7] (fun v5 v6 v7 wc => ∃ (kq : Nat) (x5_10 : Int) (x6_10 : Int) (x7_10 : Int), v5 = .int .i64 x5_10 ∧ v6 = .int .i64 x6_10 ∧ v7 = .int .i64 x7_10 ∧ Aside0 (latticeref04_Ref1.j4 kq a0 x5_10 x6_10 x7_10 0 0 x104002_6 false = some (r1, r2, r3, r4, r5)) ∧ Aside0 (kq ≤ kj6) ∧ Aside0 (wc.heap[gb102]? = some (.cells #[.int .i64 0, .int .i64 0, .bool false, .bool false] 33 (0, 0))) ∧ Aside0 (wc.heap[gb103]? = some (.cells #[.int .i64 0, .int .i64 0, .bool x104002_6, .bool false] 33 (0, 0))) ∧ Aside0 (Below w.heap.size w wc))
          case first =>
            have H := HC11.out; clear HC11
            have H' := aM H
            clear H
            go_wp2
            go_loopg [5, 6, 7] kj6 (fun kq v5 v6 v7 w' => ∃ (x5_3 : Int) (x6_3 : Int) (x7_3 : Int), v5 = .int .i64 x5_3 ∧ v6 = .int .i64 x6_3 ∧ v7 = .int .i64 x7_3 ∧ Aside0 (latticeref04_Ref1.l0 kq a0 x5_3 x6_3 x7_3 0 0 x104002_6 false = some (r1, r2, r3, r4, r5)) ∧ Aside0 (kq ≤ kj6) ∧ Aside0 (w'.heap[gb102]? = some (.cells #[.int .i64 0, .int .i64 0, .bool false, .bool false] 33 (0, 0))) ∧ Aside0 (w'.heap[gb103]? = some (.cells #[.int .i64 0, .int .i64 0, .bool x104002_6, .bool false] 33 (0, 0))) ∧ Aside0 (Below w.heap.size w w'))
            case atStart => exact ⟨(x5_6), (0), (0), (by first | rfl | (unfold wrap64; rfl) | (simp; done) | (simp [*]; done)), (by first | rfl | (unfold wrap64; rfl) | (simp; done) | (simp [*]; done)), (by first | rfl | (unfold wrap64; rfl) | (simp; done) | (simp [*]; done)), H', ⟨Nat.le_refl _⟩, ⟨by (with_reducible repeat (first | apply bN | apply bD | apply bA)); exact BK102.out⟩, ⟨by (with_reducible repeat (first | apply bN | apply bD | apply bA)); exact BK103.out⟩, ⟨hbA⟩⟩
            case round =>
              clear H'
              (try clear p2); (try clear c4); (try clear c5); (try clear c5b0); (try clear c5b1); (try clear p6); (try clear q6); (try clear hx6); (try clear qi6); (try clear c8); (try clear c9); (try clear hcz10_0); (try clear hcz10_1); (try clear hcz10_2); (try clear hcz10_3); (try clear hfz10_0); (try clear hfz10_1); (try clear hfz10_2); (try clear hfz10_3); (try clear p2); (try clear p6); (try clear q6)
              obtain ⟨x5_3, x6_3, x7_3, rfl, rfl, rfl, HA, HK3, BK102, BK103, HB⟩ := hrel
              cases gk with
              | zero => exact absurd HA.out (by simp [latticeref04_Ref1.l0])
              | succ k3 =>
                have H := HA.out; clear HA
                simp only [latticeref04_Ref1.l0] at H
                have HC12 := aM H; clear H
                go_upto_region 8 with (fail)
                go_cut [32] (fun v32 wc => ∃ (kq : Nat) (x32_11 : Bool), v32 = .bool x32_11 ∧ Aside0 (latticeref04_Ref1.j3 kq a0 x5_3 x6_3 x7_3 x32_11 0 0 x104002_6 false = some (r1, r2, r3, r4, r5)) ∧ Aside0 (kq ≤ k3) ∧ Aside0 (wc.heap[gb102]? = some (.cells #[.int .i64 0, .int .i64 0, .bool false, .bool false] 33 (0, 0))) ∧ Aside0 (wc.heap[gb103]? = some (.cells #[.int .i64 0, .int .i64 0, .bool x104002_6, .bool false] 33 (0, 0))) ∧ Aside0 (Below w.heap.size w wc))
                case first =>
                  have H := HC12.out; clear HC12
                  by_cases c13 : x5_3 < (a0.size : Int)
                  · rw [if_pos c13] at H
                    have c13b0 : decide (x5_3 < (a0.size : Int)) = true := decide_eq_true c13
                    clear c13
                    (first | rw [c13b0] | (simp only [i64_w, i32_w]; rw [c13b0]) | skip)
                    have H' := aM H
                    clear H
                    go_wp2
                    go_meet
                    case rel => exact ⟨_, (decide (x6_3 < 4)), (by first | rfl | (unfold wrap64; rfl) | (simp; done) | (simp [*]; done)), H', ⟨by have := HJ1.out; have := HJ6.out; have := HK3.out; first | omega | exact Nat.le_refl _⟩, ⟨by (with_reducible repeat (first | apply bN | apply bD | apply bA)); exact BK102.out⟩, ⟨by (with_reducible repeat (first | apply bN | apply bD | apply bA)); exact BK103.out⟩, ⟨hbA⟩⟩
                  · rw [if_neg c13] at H
                    have c13b0 : decide (x5_3 < (a0.size : Int)) = false := decide_eq_false c13
                    clear c13
                    (first | rw [c13b0] | (simp only [i64_w, i32_w]; rw [c13b0]) | skip)
                    have H' := aM H
                    clear H
                    go_wp2
                    go_meet
                    case rel => exact ⟨_, (false), (by first | rfl | (unfold wrap64; rfl) | (simp; done) | (simp [*]; done)), H', ⟨by have := HJ1.out; have := HJ6.out; have := HK3.out; first | omega | exact Nat.le_refl _⟩, ⟨by (with_reducible repeat (first | apply bN | apply bD | apply bA)); exact BK102.out⟩, ⟨by (with_reducible repeat (first | apply bN | apply bD | apply bA)); exact BK103.out⟩, ⟨hbA⟩⟩
                case rest =>
                  clear HC12; (try clear c1); (try clear p2); (try clear c4); (try clear c5); (try clear c5b0); (try clear c5b1); (try clear p6); (try clear q6); (try clear hx6); (try clear qi6); (try clear c8); (try clear c9); (try clear c13); (try clear c13b0); (try clear hcz10_0); (try clear hcz10_1); (try clear hcz10_2); (try clear hcz10_3); (try clear hfz10_0); (try clear hfz10_1); (try clear hfz10_2); (try clear hfz10_3); (try clear p2); (try clear p6); (try clear q6)
                  obtain ⟨kq, x32_11, rfl, HA, HJ11, BK102, BK103, HB⟩ := hcut
                  cases kq with
                  | zero => exact absurd HA.out (by simp [latticeref04_Ref1.j3])
                  | succ kj11 =>
                    have H := HA.out; clear HA
                    simp only [latticeref04_Ref1.j3] at H
                    by_cases c14 : x32_11 = true
                    · subst c14
                      have H1 : (if 0 ≤ x5_3 then (if x5_3 < (a0.size : Int) then ((latticeref04_letter.f (bt a0 x5_3)).bind fun t104 => (if t104 = true then (if (bt a0 x5_3) ≥ 97 then (latticeref04_Ref1.l0 kj11 a0 (wrap64 (x5_3 + 1)) (wrap64 (x6_3 + 1)) (wrap64 ((wrap64 ((wrap64 (26 * x7_3)) + (((((bt a0 x5_3) - 32) % 256) - 65) % 256))) + 1)) 0 0 x104002_6 false) else (latticeref04_Ref1.l0 kj11 a0 (wrap64 (x5_3 + 1)) (wrap64 (x6_3 + 1)) (wrap64 ((wrap64 ((wrap64 (26 * x7_3)) + (((bt a0 x5_3) - 65) % 256))) + 1)) 0 0 x104002_6 false)) else (latticeref04_Ref1.j4 kj11 a0 x5_3 x6_3 x7_3 0 0 x104002_6 false))) else (none)) else (none)) = some (r1, r2, r3, r4, r5) := by rw [if_pos rfl] at H; exact H
                      clear H; have H := H1; clear H1
                      by_cases c15 : 0 ≤ x5_3
                      · rw [if_pos c15] at H
                        have c15b0 : decide (0 ≤ x5_3) = true := decide_eq_true c15
                        clear c15
                        by_cases c16 : x5_3 < (a0.size : Int)
                        · rw [if_pos c16] at H
                          have c16b0 : decide (x5_3 < (a0.size : Int)) = true := decide_eq_true c16
                          clear c16
                          replace H := Option.bind_eq_some_iff.mp H
                          obtain ⟨t104, A180, H⟩ := H
                          replace H : (if t104 = true then (if (bt a0 x5_3) ≥ 97 then (latticeref04_Ref1.l0 kj11 a0 (wrap64 (x5_3 + 1)) (wrap64 (x6_3 + 1)) (wrap64 ((wrap64 ((wrap64 (26 * x7_3)) + (((((bt a0 x5_3) - 32) % 256) - 65) % 256))) + 1)) 0 0 x104002_6 false) else (latticeref04_Ref1.l0 kj11 a0 (wrap64 (x5_3 + 1)) (wrap64 (x6_3 + 1)) (wrap64 ((wrap64 ((wrap64 (26 * x7_3)) + (((bt a0 x5_3) - 65) % 256))) + 1)) 0 0 x104002_6 false)) else (latticeref04_Ref1.j4 kj11 a0 x5_3 x6_3 x7_3 0 0 x104002_6 false)) = some (r1, r2, r3, r4, r5) := H
                          have A18 := aM A180; clear A180
                          by_cases c19 : t104 = true
                          · subst c19
                            have H1 : (if (bt a0 x5_3) ≥ 97 then (latticeref04_Ref1.l0 kj11 a0 (wrap64 (x5_3 + 1)) (wrap64 (x6_3 + 1)) (wrap64 ((wrap64 ((wrap64 (26 * x7_3)) + (((((bt a0 x5_3) - 32) % 256) - 65) % 256))) + 1)) 0 0 x104002_6 false) else (latticeref04_Ref1.l0 kj11 a0 (wrap64 (x5_3 + 1)) (wrap64 (x6_3 + 1)) (wrap64 ((wrap64 ((wrap64 (26 * x7_3)) + (((bt a0 x5_3) - 65) % 256))) + 1)) 0 0 x104002_6 false)) = some (r1, r2, r3, r4, r5) := by rw [if_pos rfl] at H; exact H
                            clear H; have H := H1; clear H1
                            by_cases c21 : (bt a0 x5_3) ≥ 97
                            · rw [if_pos c21] at H
                              have c21b0 : decide (97 ≤ (bt a0 x5_3)) = true := decide_eq_true c21
                              clear c21
                              have H' := aM H
                              clear H
                              have p17 : 0 ≤ (x5_3 : Int) := of_decide_eq_true (by first | (with_reducible assumption) | assumption)
                              have q17 : x5_3 < (a0.size : Int) := of_decide_eq_true (by first | (with_reducible assumption) | assumption)
                              have hx17 := bt_at a0 x5_3
                              replace p17 := eq_true p17
                              replace q17 := eq_true q17
                              go_wp2_with (first | ((with_reducible refine gate_callee (f := 43) rfl ?_); refine goesL_ (some 36) rfl rfl Tryd.func43 (by kernel_rfl) rfl #[.int .u8 (bt a0 x5_3)] rfl rfA ?_; (with_reducible refine (latticeref04_letter.calls (bt a0 x5_3) true _ A18.out).mono ?_); rintro e w' ⟨rfl, ⟨nd, rfl⟩⟩; refine ⟨_, rfl, ?_⟩; have p20 : 0 ≤ (x5_3 : Int) := of_decide_eq_true (by first | (with_reducible assumption) | assumption); have q20 : x5_3 < (a0.size : Int) := of_decide_eq_true (by first | (with_reducible assumption) | assumption); have hx20 := bt_at a0 x5_3; replace p20 := eq_true p20; replace q20 := eq_true q20))
                              go_roundg kj11
                              case measure => have := HJ1.out; have := HJ6.out; have := HK3.out; have := HJ11.out; omega
                              case rel => exact ⟨(wrap64 (x5_3 + 1)), (wrap64 (x6_3 + 1)), (wrap64 ((wrap64 ((wrap64 (26 * x7_3)) + (((((bt a0 x5_3) - 32) % 256) - 65) % 256))) + 1)), (by first | rfl | (unfold wrap64; rfl) | (simp; done) | (simp [*]; done)), (by first | rfl | (unfold wrap64; rfl) | (simp; done) | (simp [*]; done)), (by first | rfl | (unfold wrap64; rfl) | (simp; done) | (simp [*]; done)), H', ⟨by have := HJ1.out; have := HJ6.out; have := HK3.out; have := HJ11.out; omega⟩, ⟨by (with_reducible repeat (first | apply bN | apply bD | apply bA)); exact BK102.out⟩, ⟨by (with_reducible repeat (first | apply bN | apply bD | apply bA)); exact BK103.out⟩, ⟨hbA⟩⟩
                            · rw [if_neg c21] at H
                              have c21b0 : decide (97 ≤ (bt a0 x5_3)) = false := decide_eq_false c21
                              clear c21
                              have H' := aM H
                              clear H
                              have p17 : 0 ≤ (x5_3 : Int) := of_decide_eq_true (by first | (with_reducible assumption) | assumption)
                              have q17 : x5_3 < (a0.size : Int) := of_decide_eq_true (by first | (with_reducible assumption) | assumption)
                              have hx17 := bt_at a0 x5_3
                              replace p17 := eq_true p17
                              replace q17 := eq_true q17
                              go_wp2_with (first | ((with_reducible refine gate_callee (f := 43) rfl ?_); refine goesL_ (some 36) rfl rfl Tryd.func43 (by kernel_rfl) rfl #[.int .u8 (bt a0 x5_3)] rfl rfA ?_; (with_reducible refine (latticeref04_letter.calls (bt a0 x5_3) true _ A18.out).mono ?_); rintro e w' ⟨rfl, ⟨nd, rfl⟩⟩; refine ⟨_, rfl, ?_⟩; have p20 : 0 ≤ (x5_3 : Int) := of_decide_eq_true (by first | (with_reducible assumption) | assumption); have q20 : x5_3 < (a0.size : Int) := of_decide_eq_true (by first | (with_reducible assumption) | assumption); have hx20 := bt_at a0 x5_3; replace p20 := eq_true p20; replace q20 := eq_true q20))
                              go_roundg kj11
                              case measure => have := HJ1.out; have := HJ6.out; have := HK3.out; have := HJ11.out; omega
                              case rel => exact ⟨(wrap64 (x5_3 + 1)), (wrap64 (x6_3 + 1)), (wrap64 ((wrap64 ((wrap64 (26 * x7_3)) + (((bt a0 x5_3) - 65) % 256))) + 1)), (by first | rfl | (unfold wrap64; rfl) | (simp; done) | (simp [*]; done)), (by first | rfl | (unfold wrap64; rfl) | (simp; done) | (simp [*]; done)), (by first | rfl | (unfold wrap64; rfl) | (simp; done) | (simp [*]; done)), H', ⟨by have := HJ1.out; have := HJ6.out; have := HK3.out; have := HJ11.out; omega⟩, ⟨by (with_reducible repeat (first | apply bN | apply bD | apply bA)); exact BK102.out⟩, ⟨by (with_reducible repeat (first | apply bN | apply bD | apply bA)); exact BK103.out⟩, ⟨hbA⟩⟩
                          · replace c19 := Bool.eq_false_iff.mpr c19
                            subst c19
                            have H1 : (latticeref04_Ref1.j4 kj11 a0 x5_3 x6_3 x7_3 0 0 x104002_6 false) = some (r1, r2, r3, r4, r5) := by rw [if_neg (show ¬ (false = true) by decide)] at H; exact H
                            clear H; have H := H1; clear H1
                            have H' := aM H
                            clear H
                            have p17 : 0 ≤ (x5_3 : Int) := of_decide_eq_true (by first | (with_reducible assumption) | assumption)
                            have q17 : x5_3 < (a0.size : Int) := of_decide_eq_true (by first | (with_reducible assumption) | assumption)
                            have hx17 := bt_at a0 x5_3
                            replace p17 := eq_true p17
                            replace q17 := eq_true q17
                            go_wp2_with (first | ((with_reducible refine gate_callee (f := 43) rfl ?_); refine goesL_ (some 36) rfl rfl Tryd.func43 (by kernel_rfl) rfl #[.int .u8 (bt a0 x5_3)] rfl rfA ?_; (with_reducible refine (latticeref04_letter.calls (bt a0 x5_3) false _ A18.out).mono ?_); rintro e w' ⟨rfl, ⟨nd, rfl⟩⟩; refine ⟨_, rfl, ?_⟩))
                            go_meet
                            case rel => exact ⟨_, (x5_3), (x6_3), (x7_3), (by first | rfl | (unfold wrap64; rfl) | (simp; done) | (simp [*]; done)), (by first | rfl | (unfold wrap64; rfl) | (simp; done) | (simp [*]; done)), (by first | rfl | (unfold wrap64; rfl) | (simp; done) | (simp [*]; done)), H', ⟨by have := HJ1.out; have := HJ6.out; have := HK3.out; have := HJ11.out; first | omega | exact Nat.le_refl _⟩, ⟨by (with_reducible repeat (first | apply bN | apply bD | apply bA)); exact BK102.out⟩, ⟨by (with_reducible repeat (first | apply bN | apply bD | apply bA)); exact BK103.out⟩, ⟨hbA⟩⟩
                        · rw [if_neg c16] at H
                          exact absurd H (by simp)
                      · rw [if_neg c15] at H
                        exact absurd H (by simp)
                    · replace c14 := Bool.eq_false_iff.mpr c14
                      subst c14
                      have H1 : (latticeref04_Ref1.j4 kj11 a0 x5_3 x6_3 x7_3 0 0 x104002_6 false) = some (r1, r2, r3, r4, r5) := by rw [if_neg (show ¬ (false = true) by decide)] at H; exact H
                      clear H; have H := H1; clear H1
                      have H' := aM H
                      clear H
                      go_wp2
                      go_meet
                      case rel => exact ⟨_, (x5_3), (x6_3), (x7_3), (by first | rfl | (unfold wrap64; rfl) | (simp; done) | (simp [*]; done)), (by first | rfl | (unfold wrap64; rfl) | (simp; done) | (simp [*]; done)), (by first | rfl | (unfold wrap64; rfl) | (simp; done) | (simp [*]; done)), H', ⟨by have := HJ1.out; have := HJ6.out; have := HK3.out; have := HJ11.out; first | omega | exact Nat.le_refl _⟩, ⟨by (with_reducible repeat (first | apply bN | apply bD | apply bA)); exact BK102.out⟩, ⟨by (with_reducible repeat (first | apply bN | apply bD | apply bA)); exact BK103.out⟩, ⟨hbA⟩⟩
          case rest =>
            clear HC11; (try clear c1); (try clear p1); (try clear q1); (try clear hx1); (try clear c2); (try clear p2); (try clear q2); (try clear hx2); (try clear c4); (try clear c5); (try clear c5b0); (try clear c5b1); (try clear p6); (try clear q6); (try clear hx6); (try clear qi6); (try clear c8); (try clear c9); (try clear c13); (try clear c13b0); (try clear c14); (try clear c15); (try clear c15b0); (try clear c16); (try clear c16b0); (try clear p17); (try clear q17); (try clear hx17); (try clear c19); (try clear p20); (try clear q20); (try clear hx20); (try clear c21); (try clear c21b0); (try clear hcz10_0); (try clear hcz10_1); (try clear hcz10_2); (try clear hcz10_3); (try clear hfz10_0); (try clear hfz10_1); (try clear hfz10_2); (try clear hfz10_3); (try clear p17); (try clear p2); (try clear p20); (try clear p6); (try clear q17); (try clear q20); (try clear q6)
            obtain ⟨kq, x5_10, x6_10, x7_10, rfl, rfl, rfl, HA, HJ10, BK102, BK103, HB⟩ := hcut
            cases kq with
            | zero => exact absurd HA.out (by simp [latticeref04_Ref1.j4])
            | succ kj10 =>
              have H := HA.out; clear HA
              simp only [latticeref04_Ref1.j4] at H
              have HC22 := aM H; clear H
              go_upto_region 17 with (fail)
              go_cut [62] (fun v62 wc => ∃ (kq : Nat) (x62_21 : Bool), v62 = .bool x62_21 ∧ Aside0 (latticeref04_Ref1.j5 kq a0 x5_10 x7_10 x62_21 0 0 x104002_6 false = some (r1, r2, r3, r4, r5)) ∧ Aside0 (kq ≤ kj10) ∧ Aside0 (wc.heap[gb102]? = some (.cells #[.int .i64 0, .int .i64 0, .bool false, .bool false] 33 (0, 0))) ∧ Aside0 (wc.heap[gb103]? = some (.cells #[.int .i64 0, .int .i64 0, .bool x104002_6, .bool false] 33 (0, 0))) ∧ Aside0 (Below w.heap.size w wc))
              case first =>
                have H := HC22.out; clear HC22
                by_cases c23 : x6_10 < 1
                · rw [if_pos c23] at H
                  have c23b0 : decide (x6_10 < 1) = true := decide_eq_true c23
                  clear c23
                  (first | rw [c23b0] | (simp only [i64_w, i32_w]; rw [c23b0]) | skip)
                  have H' := aM H
                  clear H
                  go_wp2
                  go_meet
                  case rel => exact ⟨_, (true), (by first | rfl | (unfold wrap64; rfl) | (simp; done) | (simp [*]; done)), H', ⟨by have := HJ1.out; have := HJ6.out; have := HJ10.out; first | omega | exact Nat.le_refl _⟩, ⟨by (with_reducible repeat (first | apply bN | apply bD | apply bA)); exact BK102.out⟩, ⟨by (with_reducible repeat (first | apply bN | apply bD | apply bA)); exact BK103.out⟩, ⟨hbA⟩⟩
                · rw [if_neg c23] at H
                  have c23b0 : decide (x6_10 < 1) = false := decide_eq_false c23
                  clear c23
                  (first | rw [c23b0] | (simp only [i64_w, i32_w]; rw [c23b0]) | skip)
                  have H' := aM H
                  clear H
                  go_wp2
                  go_meet
                  case rel => exact ⟨_, (decide (x6_10 > 3)), (by first | rfl | (unfold wrap64; rfl) | (simp; done) | (simp [*]; done)), H', ⟨by have := HJ1.out; have := HJ6.out; have := HJ10.out; first | omega | exact Nat.le_refl _⟩, ⟨by (with_reducible repeat (first | apply bN | apply bD | apply bA)); exact BK102.out⟩, ⟨by (with_reducible repeat (first | apply bN | apply bD | apply bA)); exact BK103.out⟩, ⟨hbA⟩⟩
              case rest =>
                clear HC22; (try clear c1); (try clear p1); (try clear q1); (try clear hx1); (try clear c2); (try clear p2); (try clear q2); (try clear hx2); (try clear c4); (try clear c5); (try clear c5b0); (try clear c5b1); (try clear p6); (try clear q6); (try clear hx6); (try clear qi6); (try clear c8); (try clear c9); (try clear c13); (try clear c13b0); (try clear c14); (try clear c15); (try clear c15b0); (try clear c16); (try clear c16b0); (try clear p17); (try clear q17); (try clear hx17); (try clear c19); (try clear p20); (try clear q20); (try clear hx20); (try clear c21); (try clear c21b0); (try clear c23); (try clear c23b0); (try clear hcz10_0); (try clear hcz10_1); (try clear hcz10_2); (try clear hcz10_3); (try clear hfz10_0); (try clear hfz10_1); (try clear hfz10_2); (try clear hfz10_3); (try clear p1); (try clear p17); (try clear p2); (try clear p20); (try clear p6); (try clear q1); (try clear q17); (try clear q2); (try clear q20); (try clear q6)
                obtain ⟨kq, x62_21, rfl, HA, HJ21, BK102, BK103, HB⟩ := hcut
                cases kq with
                | zero => exact absurd HA.out (by simp [latticeref04_Ref1.j5])
                | succ kj21 =>
                  have H := HA.out; clear HA
                  simp only [latticeref04_Ref1.j5] at H
                  by_cases c24 : x62_21 = true
                  · subst c24
                    have H1 : (some (0, 0, false, false, false)) = some (r1, r2, r3, r4, r5) := by rw [if_pos rfl] at H; exact H
                    clear H; have H := H1; clear H1
                    simp only [Option.some.injEq, Prod.mk.injEq] at H
                    obtain ⟨rfl, rfl, rfl, rfl, rfl⟩ := H
                    have hnb25 := NB102_103.out; have hnc25 := NB103_102.out; have hcz26_0 := hzA BK102 0; have hcz26_1 := hzA BK102 1; have hcz26_2 := hzA BK102 2; have hcz26_3 := hzA BK102 3; have hfz26_0 := fzA BK102 0; have hfz26_1 := fzA BK102 1; have hfz26_2 := fzA BK102 2; have hfz26_3 := fzA BK102 3
                    go_wp2
                    refine bodyPost_ret (results_ct rfl _ _ gb102 33 #[.int .i64 0, .int .i64 0, .bool false, .bool false] (0, 0) _ rfl (by (with_reducible repeat (first | apply bN | apply bD | apply bA)); refine blk_put (cs := #[.int .i64 0, .int .i64 0, .bool false, .bool false]) ?_ 3 _ rfl; (with_reducible repeat (first | apply bN | apply bD | apply bA)); refine blk_put (cs := #[.int .i64 0, .int .i64 0, .bool false, .bool false]) ?_ 2 _ rfl; (with_reducible repeat (first | apply bN | apply bD | apply bA)); refine blk_put (cs := #[.int .i64 0, .int .i64 0, .bool false, .bool false]) ?_ 1 _ rfl; (with_reducible repeat (first | apply bN | apply bD | apply bA)); refine blk_put (cs := #[.int .i64 0, .int .i64 0, .bool false, .bool false]) ?_ 0 _ rfl; (with_reducible repeat (first | apply bN | apply bD | apply bA)); exact BK102.out) Tryd.underlying33 rfl (by kernel_rfl)) rfl ?_
                    exact ⟨by first | rfl | (simp [errW_none, errW_some] <;> rfl) | (simp [*, errW_none, errW_some] <;> rfl), hbA⟩
                  · replace c24 := Bool.eq_false_iff.mpr c24
                    subst c24
                    have H1 : (if x5_10 < (a0.size : Int) then (if 0 ≤ x5_10 then (latticeref04_Ref1.j6 kj21 a0 x5_10 x7_10 ((bt a0 x5_10) == 36) 0 0 x104002_6 false) else (none)) else (latticeref04_Ref1.j6 kj21 a0 x5_10 x7_10 false 0 0 x104002_6 false)) = some (r1, r2, r3, r4, r5) := by rw [if_neg (show ¬ (false = true) by decide)] at H; exact H
                    clear H; have H := H1; clear H1; have HC27 := aM H; clear H
                    go_upto_region 19 with (fail)
                    go_cut [73] (fun v73 wc => ∃ (kq : Nat) (x73_26 : Bool), v73 = .bool x73_26 ∧ Aside0 (latticeref04_Ref1.j6 kq a0 x5_10 x7_10 x73_26 0 0 x104002_6 false = some (r1, r2, r3, r4, r5)) ∧ Aside0 (kq ≤ kj21) ∧ Aside0 (wc.heap[gb102]? = some (.cells #[.int .i64 0, .int .i64 0, .bool false, .bool false] 33 (0, 0))) ∧ Aside0 (wc.heap[gb103]? = some (.cells #[.int .i64 0, .int .i64 0, .bool x104002_6, .bool false] 33 (0, 0))) ∧ Aside0 (Below w.heap.size w wc))
                    case first =>
                      have H := HC27.out; clear HC27
                      by_cases c28 : x5_10 < (a0.size : Int)
                      · rw [if_pos c28] at H
                        have c28b0 : decide (x5_10 < (a0.size : Int)) = true := decide_eq_true c28
                        clear c28
                        (first | rw [c28b0] | (simp only [i64_w, i32_w]; rw [c28b0]) | skip)
                        by_cases c29 : 0 ≤ x5_10
                        · rw [if_pos c29] at H
                          have c29b0 : decide (0 ≤ x5_10) = true := decide_eq_true c29
                          clear c29
                          have H' := aM H
                          clear H
                          have p30 : 0 ≤ (x5_10 : Int) := of_decide_eq_true (by first | (with_reducible assumption) | assumption)
                          have q30 : x5_10 < (a0.size : Int) := of_decide_eq_true (by first | (with_reducible assumption) | assumption)
                          have hx30 := bt_at a0 x5_10
                          replace p30 := eq_true p30
                          replace q30 := eq_true q30
                          go_wp2
                          go_meet
                          case rel => exact ⟨_, (((bt a0 x5_10) == 36)), (by first | rfl | (unfold wrap64; rfl) | (simp; done) | (simp [*]; done)), H', ⟨by have := HJ1.out; have := HJ6.out; have := HJ10.out; have := HJ21.out; first | omega | exact Nat.le_refl _⟩, ⟨by (with_reducible repeat (first | apply bN | apply bD | apply bA)); exact BK102.out⟩, ⟨by (with_reducible repeat (first | apply bN | apply bD | apply bA)); exact BK103.out⟩, ⟨hbA⟩⟩
                        · rw [if_neg c29] at H
                          exact absurd H (by simp)
                      · rw [if_neg c28] at H
                        have c28b0 : decide (x5_10 < (a0.size : Int)) = false := decide_eq_false c28
                        clear c28
                        (first | rw [c28b0] | (simp only [i64_w, i32_w]; rw [c28b0]) | skip)
                        have H' := aM H
                        clear H
                        go_wp2
                        go_meet
                        case rel => exact ⟨_, (false), (by first | rfl | (unfold wrap64; rfl) | (simp; done) | (simp [*]; done)), H', ⟨by have := HJ1.out; have := HJ6.out; have := HJ10.out; have := HJ21.out; first | omega | exact Nat.le_refl _⟩, ⟨by (with_reducible repeat (first | apply bN | apply bD | apply bA)); exact BK102.out⟩, ⟨by (with_reducible repeat (first | apply bN | apply bD | apply bA)); exact BK103.out⟩, ⟨hbA⟩⟩
                    case rest =>
                      clear HC27; (try clear c1); (try clear p1); (try clear q1); (try clear hx1); (try clear c2); (try clear p2); (try clear q2); (try clear hx2); (try clear p3); (try clear q3); (try clear hx3); (try clear c4); (try clear c5); (try clear c5b0); (try clear c5b1); (try clear p6); (try clear q6); (try clear hx6); (try clear qi6); (try clear c8); (try clear c9); (try clear c13); (try clear c13b0); (try clear c14); (try clear c15); (try clear c15b0); (try clear c16); (try clear c16b0); (try clear p17); (try clear q17); (try clear hx17); (try clear c19); (try clear p20); (try clear q20); (try clear hx20); (try clear c21); (try clear c21b0); (try clear c23); (try clear c23b0); (try clear c24); (try clear c25); (try clear c28); (try clear c28b0); (try clear c29); (try clear c29b0); (try clear p30); (try clear q30); (try clear hx30); (try clear hcz10_0); (try clear hcz10_1); (try clear hcz10_2); (try clear hcz10_3); (try clear hcz26_0); (try clear hcz26_1); (try clear hcz26_2); (try clear hcz26_3); (try clear hfz10_0); (try clear hfz10_1); (try clear hfz10_2); (try clear hfz10_3); (try clear hfz26_0); (try clear hfz26_1); (try clear hfz26_2); (try clear hfz26_3); (try clear p1); (try clear p17); (try clear p2); (try clear p20); (try clear p30); (try clear p6); (try clear q1); (try clear q17); (try clear q2); (try clear q20); (try clear q30); (try clear q6)
                      obtain ⟨kq, x73_26, rfl, HA, HJ26, BK102, BK103, HB⟩ := hcut
                      cases kq with
                      | zero => exact absurd HA.out (by simp [latticeref04_Ref1.j6])
                      | succ kj26 =>
                        have H := HA.out; clear HA
                        simp only [latticeref04_Ref1.j6] at H
                        have HC31 := aM H; clear H
                        go_upto_if 73 with (fail)
                        go_cut [5] (fun v5 wc => ∃ (kq : Nat) (x5_30 : Int) (x104003_30 : Bool), v5 = .int .i64 x5_30 ∧ Aside0 (latticeref04_Ref1.j7 kq a0 x5_30 x7_10 0 0 x104002_6 x104003_30 = some (r1, r2, r3, r4, r5)) ∧ Aside0 (kq ≤ kj26) ∧ Aside0 (wc.heap[gb102]? = some (.cells #[.int .i64 0, .int .i64 0, .bool false, .bool false] 33 (0, 0))) ∧ Aside0 (wc.heap[gb103]? = some (.cells #[.int .i64 0, .int .i64 0, .bool x104002_6, .bool x104003_30] 33 (0, 0))) ∧ Aside0 (Below w.heap.size w wc))
                        case first =>
                          have H := HC31.out; clear HC31
                          by_cases c32 : x73_26 = true
                          · subst c32
                            have H1 : (latticeref04_Ref1.j7 kj26 a0 (wrap64 (x5_10 + 1)) x7_10 0 0 x104002_6 true) = some (r1, r2, r3, r4, r5) := by rw [if_pos rfl] at H; exact H
                            clear H; have H := H1; clear H1
                            have H' := aM H
                            clear H; have hnb33 := NB103_102.out; have hnc33 := NB102_103.out; have hcz34_0 := hzA BK103 0; have hcz34_1 := hzA BK103 1; have hcz34_2 := hzA BK103 2; have hcz34_3 := hzA BK103 3; have hfz34_0 := fzA BK103 0; have hfz34_1 := fzA BK103 1; have hfz34_2 := fzA BK103 2; have hfz34_3 := fzA BK103 3
                            go_wp2
                            go_meet
                            case rel => exact ⟨_, (wrap64 (x5_10 + 1)), (true), (by first | rfl | (unfold wrap64; rfl) | (simp; done) | (simp [*]; done)), H', ⟨by have := HJ1.out; have := HJ6.out; have := HJ10.out; have := HJ21.out; have := HJ26.out; first | omega | exact Nat.le_refl _⟩, ⟨by (with_reducible repeat (first | apply bN | apply bD | apply bA)); refine blk_far ?_ NB102_103.out _; (with_reducible repeat (first | apply bN | apply bD | apply bA)); exact BK102.out⟩, ⟨by (with_reducible repeat (first | apply bN | apply bD | apply bA)); refine blk_put (cs := #[.int .i64 0, .int .i64 0, .bool x104002_6, .bool false]) ?_ 3 _ rfl; (with_reducible repeat (first | apply bN | apply bD | apply bA)); exact BK103.out⟩, ⟨hbA⟩⟩
                          · replace c32 := Bool.eq_false_iff.mpr c32
                            subst c32
                            have H1 : (latticeref04_Ref1.j7 kj26 a0 x5_10 x7_10 0 0 x104002_6 false) = some (r1, r2, r3, r4, r5) := by rw [if_neg (show ¬ (false = true) by decide)] at H; exact H
                            clear H; have H := H1; clear H1
                            have H' := aM H
                            clear H
                            go_wp2
                            go_meet
                            case rel => exact ⟨_, (x5_10), (false), (by first | rfl | (unfold wrap64; rfl) | (simp; done) | (simp [*]; done)), H', ⟨by have := HJ1.out; have := HJ6.out; have := HJ10.out; have := HJ21.out; have := HJ26.out; first | omega | exact Nat.le_refl _⟩, ⟨by (with_reducible repeat (first | apply bN | apply bD | apply bA)); exact BK102.out⟩, ⟨by (with_reducible repeat (first | apply bN | apply bD | apply bA)); exact BK103.out⟩, ⟨hbA⟩⟩
                        case rest =>
                          clear HC31; (try clear c1); (try clear p1); (try clear q1); (try clear hx1); (try clear c2); (try clear p2); (try clear q2); (try clear hx2); (try clear c3); (try clear p3); (try clear q3); (try clear hx3); (try clear c4); (try clear c5); (try clear c5b0); (try clear c5b1); (try clear p6); (try clear q6); (try clear hx6); (try clear qi6); (try clear c8); (try clear c9); (try clear c13); (try clear c13b0); (try clear c14); (try clear c15); (try clear c15b0); (try clear c16); (try clear c16b0); (try clear p17); (try clear q17); (try clear hx17); (try clear c19); (try clear p20); (try clear q20); (try clear hx20); (try clear c21); (try clear c21b0); (try clear c23); (try clear c23b0); (try clear c24); (try clear c25); (try clear c28); (try clear c28b0); (try clear c29); (try clear c29b0); (try clear p30); (try clear q30); (try clear hx30); (try clear c32); (try clear c33); (try clear hcz10_0); (try clear hcz10_1); (try clear hcz10_2); (try clear hcz10_3); (try clear hcz26_0); (try clear hcz26_1); (try clear hcz26_2); (try clear hcz26_3); (try clear hcz34_0); (try clear hcz34_1); (try clear hcz34_2); (try clear hcz34_3); (try clear hfz10_0); (try clear hfz10_1); (try clear hfz10_2); (try clear hfz10_3); (try clear hfz26_0); (try clear hfz26_1); (try clear hfz26_2); (try clear hfz26_3); (try clear hfz34_0); (try clear hfz34_1); (try clear hfz34_2); (try clear hfz34_3); (try clear p1); (try clear p17); (try clear p2); (try clear p20); (try clear p3); (try clear p30); (try clear p6); (try clear q1); (try clear q17); (try clear q2); (try clear q20); (try clear q3); (try clear q30); (try clear q6)
                          obtain ⟨kq, x5_30, x104003_30, rfl, HA, HJ30, BK102, BK103, HB⟩ := hcut
                          cases kq with
                          | zero => exact absurd HA.out (by simp [latticeref04_Ref1.j7])
                          | succ kj30 =>
                            have H := HA.out; clear HA
                            simp only [latticeref04_Ref1.j7] at H
                            have HC35 := aM H; clear H
                            go_upto_region 22 with (fail)
                            go_cut [94] (fun v94 wc => ∃ (kq : Nat) (x94_34 : Bool), v94 = .bool x94_34 ∧ Aside0 (latticeref04_Ref1.j8 kq a0 x5_30 x7_10 x94_34 0 0 x104002_6 x104003_30 = some (r1, r2, r3, r4, r5)) ∧ Aside0 (kq ≤ kj30) ∧ Aside0 (wc.heap[gb102]? = some (.cells #[.int .i64 0, .int .i64 0, .bool false, .bool false] 33 (0, 0))) ∧ Aside0 (wc.heap[gb103]? = some (.cells #[.int .i64 0, .int .i64 0, .bool x104002_6, .bool x104003_30] 33 (0, 0))) ∧ Aside0 (Below w.heap.size w wc))
                            case first =>
                              have H := HC35.out; clear HC35
                              by_cases c36 : (wrap64 ((a0.size : Int) - x5_30)) < 1
                              · rw [if_pos c36] at H
                                have c36b0 : decide ((wrap64 ((a0.size : Int) - x5_30)) < 1) = true := decide_eq_true c36
                                clear c36
                                (first | rw [c36b0] | (simp only [i64_w, i32_w]; rw [c36b0]) | skip)
                                have H' := aM H
                                clear H
                                go_wp2
                                go_meet
                                case rel => exact ⟨_, (true), (by first | rfl | (unfold wrap64; rfl) | (simp; done) | (simp [*]; done)), H', ⟨by have := HJ1.out; have := HJ6.out; have := HJ10.out; have := HJ21.out; have := HJ26.out; have := HJ30.out; first | omega | exact Nat.le_refl _⟩, ⟨by (with_reducible repeat (first | apply bN | apply bD | apply bA)); exact BK102.out⟩, ⟨by (with_reducible repeat (first | apply bN | apply bD | apply bA)); exact BK103.out⟩, ⟨hbA⟩⟩
                              · rw [if_neg c36] at H
                                have c36b0 : decide ((wrap64 ((a0.size : Int) - x5_30)) < 1) = false := decide_eq_false c36
                                clear c36
                                (first | rw [c36b0] | (simp only [i64_w, i32_w]; rw [c36b0]) | skip)
                                by_cases c37 : (wrap64 ((a0.size : Int) - x5_30)) > 5
                                · rw [if_pos c37] at H
                                  have c37b0 : decide (5 < (wrap64 ((a0.size : Int) - x5_30))) = true := decide_eq_true c37
                                  clear c37
                                  have H' := aM H
                                  clear H
                                  go_wp2
                                  go_meet
                                  case rel => exact ⟨_, (true), (by first | rfl | (unfold wrap64; rfl) | (simp; done) | (simp [*]; done)), H', ⟨by have := HJ1.out; have := HJ6.out; have := HJ10.out; have := HJ21.out; have := HJ26.out; have := HJ30.out; first | omega | exact Nat.le_refl _⟩, ⟨by (with_reducible repeat (first | apply bN | apply bD | apply bA)); exact BK102.out⟩, ⟨by (with_reducible repeat (first | apply bN | apply bD | apply bA)); exact BK103.out⟩, ⟨hbA⟩⟩
                                · rw [if_neg c37] at H
                                  have c37b0 : decide (5 < (wrap64 ((a0.size : Int) - x5_30))) = false := decide_eq_false c37
                                  clear c37
                                  by_cases c38 : 0 ≤ x5_30
                                  · rw [if_pos c38] at H
                                    have c38b0 : decide (0 ≤ x5_30) = true := decide_eq_true c38
                                    clear c38
                                    by_cases c39 : x5_30 < (a0.size : Int)
                                    · rw [if_pos c39] at H
                                      have c39b0 : decide (x5_30 < (a0.size : Int)) = true := decide_eq_true c39
                                      clear c39
                                      have H' := aM H
                                      clear H
                                      have p40 : 0 ≤ (x5_30 : Int) := of_decide_eq_true (by first | (with_reducible assumption) | assumption)
                                      have q40 : x5_30 < (a0.size : Int) := of_decide_eq_true (by first | (with_reducible assumption) | assumption)
                                      have hx40 := bt_at a0 x5_30
                                      replace p40 := eq_true p40
                                      replace q40 := eq_true q40
                                      go_wp2
                                      go_meet
                                      case rel => exact ⟨_, (((bt a0 x5_30) == 48)), (by first | rfl | (unfold wrap64; rfl) | (simp; done) | (simp [*]; done)), H', ⟨by have := HJ1.out; have := HJ6.out; have := HJ10.out; have := HJ21.out; have := HJ26.out; have := HJ30.out; first | omega | exact Nat.le_refl _⟩, ⟨by (with_reducible repeat (first | apply bN | apply bD | apply bA)); exact BK102.out⟩, ⟨by (with_reducible repeat (first | apply bN | apply bD | apply bA)); exact BK103.out⟩, ⟨hbA⟩⟩
                                    · rw [if_neg c39] at H
                                      exact absurd H (by simp)
                                  · rw [if_neg c38] at H
                                    exact absurd H (by simp)
                            case rest =>
                              clear HC35; (try clear c1); (try clear p1); (try clear q1); (try clear hx1); (try clear c2); (try clear p2); (try clear q2); (try clear hx2); (try clear c3); (try clear p3); (try clear q3); (try clear hx3); (try clear c4); (try clear p4); (try clear q4); (try clear hx4); (try clear c5); (try clear c5b0); (try clear c5b1); (try clear p6); (try clear q6); (try clear hx6); (try clear qi6); (try clear c8); (try clear c9); (try clear c13); (try clear c13b0); (try clear c14); (try clear c15); (try clear c15b0); (try clear c16); (try clear c16b0); (try clear p17); (try clear q17); (try clear hx17); (try clear c19); (try clear p20); (try clear q20); (try clear hx20); (try clear c21); (try clear c21b0); (try clear c23); (try clear c23b0); (try clear c24); (try clear c25); (try clear c28); (try clear c28b0); (try clear c29); (try clear c29b0); (try clear p30); (try clear q30); (try clear hx30); (try clear c32); (try clear c33); (try clear c36); (try clear c36b0); (try clear c37); (try clear c37b0); (try clear c38); (try clear c38b0); (try clear c39); (try clear c39b0); (try clear p40); (try clear q40); (try clear hx40); (try clear hcz10_0); (try clear hcz10_1); (try clear hcz10_2); (try clear hcz10_3); (try clear hcz26_0); (try clear hcz26_1); (try clear hcz26_2); (try clear hcz26_3); (try clear hcz34_0); (try clear hcz34_1); (try clear hcz34_2); (try clear hcz34_3); (try clear hfz10_0); (try clear hfz10_1); (try clear hfz10_2); (try clear hfz10_3); (try clear hfz26_0); (try clear hfz26_1); (try clear hfz26_2); (try clear hfz26_3); (try clear hfz34_0); (try clear hfz34_1); (try clear hfz34_2); (try clear hfz34_3); (try clear p1); (try clear p17); (try clear p2); (try clear p20); (try clear p3); (try clear p30); (try clear p40); (try clear p6); (try clear q1); (try clear q17); (try clear q2); (try clear q20); (try clear q3); (try clear q30); (try clear q40); (try clear q6)
                              obtain ⟨kq, x94_34, rfl, HA, HJ34, BK102, BK103, HB⟩ := hcut
                              cases kq with
                              | zero => exact absurd HA.out (by simp [latticeref04_Ref1.j8])
                              | succ kj34 =>
                                have H := HA.out; clear HA
                                simp only [latticeref04_Ref1.j8] at H
                                by_cases c41 : x94_34 = true
                                · subst c41
                                  have H1 : (some (0, 0, false, false, false)) = some (r1, r2, r3, r4, r5) := by rw [if_pos rfl] at H; exact H
                                  clear H; have H := H1; clear H1
                                  simp only [Option.some.injEq, Prod.mk.injEq] at H
                                  obtain ⟨rfl, rfl, rfl, rfl, rfl⟩ := H
                                  have hnb42 := NB102_103.out; have hnc42 := NB103_102.out; have hcz43_0 := hzA BK102 0; have hcz43_1 := hzA BK102 1; have hcz43_2 := hzA BK102 2; have hcz43_3 := hzA BK102 3; have hfz43_0 := fzA BK102 0; have hfz43_1 := fzA BK102 1; have hfz43_2 := fzA BK102 2; have hfz43_3 := fzA BK102 3
                                  go_wp2
                                  refine bodyPost_ret (results_ct rfl _ _ gb102 33 #[.int .i64 0, .int .i64 0, .bool false, .bool false] (0, 0) _ rfl (by (with_reducible repeat (first | apply bN | apply bD | apply bA)); refine blk_put (cs := #[.int .i64 0, .int .i64 0, .bool false, .bool false]) ?_ 3 _ rfl; (with_reducible repeat (first | apply bN | apply bD | apply bA)); refine blk_put (cs := #[.int .i64 0, .int .i64 0, .bool false, .bool false]) ?_ 2 _ rfl; (with_reducible repeat (first | apply bN | apply bD | apply bA)); refine blk_put (cs := #[.int .i64 0, .int .i64 0, .bool false, .bool false]) ?_ 1 _ rfl; (with_reducible repeat (first | apply bN | apply bD | apply bA)); refine blk_put (cs := #[.int .i64 0, .int .i64 0, .bool false, .bool false]) ?_ 0 _ rfl; (with_reducible repeat (first | apply bN | apply bD | apply bA)); exact BK102.out) Tryd.underlying33 rfl (by kernel_rfl)) rfl ?_
                                  exact ⟨by first | rfl | (simp [errW_none, errW_some] <;> rfl) | (simp [*, errW_none, errW_some] <;> rfl), hbA⟩
                                · replace c41 := Bool.eq_false_iff.mpr c41
                                  subst c41
                                  have H1 : (latticeref04_Ref1.l1 kj34 a0 x5_30 x7_10 0 0 0 x104002_6 x104003_30) = some (r1, r2, r3, r4, r5) := by rw [if_neg (show ¬ (false = true) by decide)] at H; exact H
                                  clear H; have H := H1; clear H1
                                  have H' := aM H
                                  clear H
                                  go_wp2
                                  go_loopg [5, 10] kj34 (fun kq v5 v10 w' => ∃ (x5_8 : Int) (x10_8 : Int) (x103000_8 : Int) (x103001_8 : Int) (x103002_8 : Bool) (x103003_8 : Bool), v5 = .int .i64 x5_8 ∧ v10 = .int .i64 x10_8 ∧ Aside0 (latticeref04_Ref1.l1 kq a0 x5_8 x7_10 x10_8 0 0 x104002_6 x104003_30 = some (r1, r2, r3, r4, r5)) ∧ Aside0 (kq ≤ kj34) ∧ Aside0 (w'.heap[gb102]? = some (.cells #[.int .i64 x103000_8, .int .i64 x103001_8, .bool x103002_8, .bool x103003_8] 33 (0, 0))) ∧ Aside0 (w'.heap[gb103]? = some (.cells #[.int .i64 0, .int .i64 0, .bool x104002_6, .bool x104003_30] 33 (0, 0))) ∧ Aside0 (Below w.heap.size w w'))
                                  case atStart => exact ⟨(x5_30), (0), (0), (0), (false), (false), (by first | rfl | (unfold wrap64; rfl) | (simp; done) | (simp [*]; done)), (by first | rfl | (unfold wrap64; rfl) | (simp; done) | (simp [*]; done)), H', ⟨Nat.le_refl _⟩, ⟨by (with_reducible repeat (first | apply bN | apply bD | apply bA)); exact BK102.out⟩, ⟨by (with_reducible repeat (first | apply bN | apply bD | apply bA)); exact BK103.out⟩, ⟨hbA⟩⟩
                                  case round =>
                                    clear H'
                                    (try clear c1); (try clear p1); (try clear q1); (try clear hx1); (try clear c2); (try clear p2); (try clear q2); (try clear hx2); (try clear c3); (try clear p3); (try clear q3); (try clear hx3); (try clear c4); (try clear p4); (try clear q4); (try clear hx4); (try clear c5); (try clear c5b0); (try clear c5b1); (try clear p6); (try clear q6); (try clear hx6); (try clear qi6); (try clear c8); (try clear c9); (try clear c13); (try clear c13b0); (try clear c14); (try clear c15); (try clear c15b0); (try clear c16); (try clear c16b0); (try clear p17); (try clear q17); (try clear hx17); (try clear c19); (try clear p20); (try clear q20); (try clear hx20); (try clear c21); (try clear c21b0); (try clear c23); (try clear c23b0); (try clear c24); (try clear c25); (try clear c28); (try clear c28b0); (try clear c29); (try clear c29b0); (try clear p30); (try clear q30); (try clear hx30); (try clear c32); (try clear c33); (try clear c36); (try clear c36b0); (try clear c37); (try clear c37b0); (try clear c38); (try clear c38b0); (try clear c39); (try clear c39b0); (try clear p40); (try clear q40); (try clear hx40); (try clear c41); (try clear c42); (try clear hcz10_0); (try clear hcz10_1); (try clear hcz10_2); (try clear hcz10_3); (try clear hcz26_0); (try clear hcz26_1); (try clear hcz26_2); (try clear hcz26_3); (try clear hcz34_0); (try clear hcz34_1); (try clear hcz34_2); (try clear hcz34_3); (try clear hcz43_0); (try clear hcz43_1); (try clear hcz43_2); (try clear hcz43_3); (try clear hfz10_0); (try clear hfz10_1); (try clear hfz10_2); (try clear hfz10_3); (try clear hfz26_0); (try clear hfz26_1); (try clear hfz26_2); (try clear hfz26_3); (try clear hfz34_0); (try clear hfz34_1); (try clear hfz34_2); (try clear hfz34_3); (try clear hfz43_0); (try clear hfz43_1); (try clear hfz43_2); (try clear hfz43_3); (try clear p1); (try clear p17); (try clear p2); (try clear p20); (try clear p3); (try clear p30); (try clear p4); (try clear p40); (try clear p6); (try clear q1); (try clear q17); (try clear q2); (try clear q20); (try clear q3); (try clear q30); (try clear q4); (try clear q40); (try clear q6)
                                    obtain ⟨x5_8, x10_8, x103000_8, x103001_8, x103002_8, x103003_8, rfl, rfl, HA, HK8, BK102, BK103, HB⟩ := hrel
                                    cases gk with
                                    | zero => exact absurd HA.out (by simp [latticeref04_Ref1.l1])
                                    | succ k8 =>
                                      have H := HA.out; clear HA
                                      simp only [latticeref04_Ref1.l1] at H
                                      by_cases c44 : x5_8 < (a0.size : Int)
                                      · rw [if_pos c44] at H
                                        have c44b0 : decide (x5_8 < (a0.size : Int)) = true := decide_eq_true c44
                                        clear c44
                                        by_cases c45 : 0 ≤ x5_8
                                        · rw [if_pos c45] at H
                                          have c45b0 : decide (0 ≤ x5_8) = true := decide_eq_true c45
                                          clear c45
                                          replace H := Option.bind_eq_some_iff.mp H
                                          obtain ⟨t105, A470, H⟩ := H
                                          replace H : (if t105 = true then (latticeref04_Ref1.l1 k8 a0 (wrap64 (x5_8 + 1)) x7_10 (wrap64 ((wrap64 (10 * x10_8)) + (((bt a0 x5_8) - 48) % 256))) 0 0 x104002_6 x104003_30) else (some (0, 0, false, false, false))) = some (r1, r2, r3, r4, r5) := H
                                          have A47 := aM A470; clear A470
                                          by_cases c48 : t105 = true
                                          · subst c48
                                            have H1 : (latticeref04_Ref1.l1 k8 a0 (wrap64 (x5_8 + 1)) x7_10 (wrap64 ((wrap64 (10 * x10_8)) + (((bt a0 x5_8) - 48) % 256))) 0 0 x104002_6 x104003_30) = some (r1, r2, r3, r4, r5) := by rw [if_pos rfl] at H; exact H
                                            clear H; have H := H1; clear H1
                                            have H' := aM H
                                            clear H
                                            have p46 : 0 ≤ (x5_8 : Int) := of_decide_eq_true (by first | (with_reducible assumption) | assumption)
                                            have q46 : x5_8 < (a0.size : Int) := of_decide_eq_true (by first | (with_reducible assumption) | assumption)
                                            have hx46 := bt_at a0 x5_8
                                            replace p46 := eq_true p46
                                            replace q46 := eq_true q46
                                            go_wp2_with (first | ((with_reducible refine gate_callee (f := 44) rfl ?_); refine goesL_ (some 103) rfl rfl Tryd.func44 (by kernel_rfl) rfl #[.int .u8 (bt a0 x5_8)] rfl rfA ?_; (with_reducible refine (latticeref04_digit.calls (bt a0 x5_8) true _ A47.out).mono ?_); rintro e w' ⟨rfl, ⟨nd, rfl⟩⟩; refine ⟨_, rfl, ?_⟩; have p49 : 0 ≤ (x5_8 : Int) := of_decide_eq_true (by first | (with_reducible assumption) | assumption); have q49 : x5_8 < (a0.size : Int) := of_decide_eq_true (by first | (with_reducible assumption) | assumption); have hx49 := bt_at a0 x5_8; replace p49 := eq_true p49; replace q49 := eq_true q49))
                                            go_roundg k8
                                            case measure => have := HJ1.out; have := HJ6.out; have := HJ10.out; have := HJ21.out; have := HJ26.out; have := HJ30.out; have := HJ34.out; have := HK8.out; omega
                                            case rel => exact ⟨(wrap64 (x5_8 + 1)), (wrap64 ((wrap64 (10 * x10_8)) + (((bt a0 x5_8) - 48) % 256))), (x103000_8), (x103001_8), (x103002_8), (x103003_8), (by first | rfl | (unfold wrap64; rfl) | (simp; done) | (simp [*]; done)), (by first | rfl | (unfold wrap64; rfl) | (simp; done) | (simp [*]; done)), H', ⟨by have := HJ1.out; have := HJ6.out; have := HJ10.out; have := HJ21.out; have := HJ26.out; have := HJ30.out; have := HJ34.out; have := HK8.out; omega⟩, ⟨by (with_reducible repeat (first | apply bN | apply bD | apply bA)); exact BK102.out⟩, ⟨by (with_reducible repeat (first | apply bN | apply bD | apply bA)); exact BK103.out⟩, ⟨hbA⟩⟩
                                          · replace c48 := Bool.eq_false_iff.mpr c48
                                            subst c48
                                            have H1 : (some (0, 0, false, false, false)) = some (r1, r2, r3, r4, r5) := by rw [if_neg (show ¬ (false = true) by decide)] at H; exact H
                                            clear H; have H := H1; clear H1
                                            simp only [Option.some.injEq, Prod.mk.injEq] at H
                                            obtain ⟨rfl, rfl, rfl, rfl, rfl⟩ := H
                                            have p46 : 0 ≤ (x5_8 : Int) := of_decide_eq_true (by first | (with_reducible assumption) | assumption)
                                            have q46 : x5_8 < (a0.size : Int) := of_decide_eq_true (by first | (with_reducible assumption) | assumption)
                                            have hx46 := bt_at a0 x5_8
                                            replace p46 := eq_true p46
                                            replace q46 := eq_true q46
                                            go_wp2_with (first | ((with_reducible refine gate_callee (f := 44) rfl ?_); refine goesL_ (some 103) rfl rfl Tryd.func44 (by kernel_rfl) rfl #[.int .u8 (bt a0 x5_8)] rfl rfA ?_; (with_reducible refine (latticeref04_digit.calls (bt a0 x5_8) false _ A47.out).mono ?_); rintro e w' ⟨rfl, ⟨nd, rfl⟩⟩; refine ⟨_, rfl, ?_⟩; (try (rw [drewN_self wr]; generalize hq_ : World.drewN wr _ = wr; have n0_ : Aside0 (wr.heap[gb102]? = some (.cells #[.int .i64 x103000_8, .int .i64 x103001_8, .bool x103002_8, .bool x103003_8] 33 (0, 0))) := ⟨by rw [← hq_]; exact (bkA BK102)⟩; have n1_ : Aside0 (wr.heap[gb103]? = some (.cells #[.int .i64 0, .int .i64 0, .bool x104002_6, .bool x104003_30] 33 (0, 0))) := ⟨by rw [← hq_]; exact (bkA BK103)⟩; have n2_ : Aside0 (Below w.heap.size w wr) := ⟨by rw [← hq_]; exact hbA⟩; clear BK102 BK103 HB hq_; have BK102 := n0_; have BK103 := n1_; have HB := n2_; clear n0_ n1_ n2_)); have hnb50 := NB102_103.out; have hnc50 := NB103_102.out; have hcz51_0 := hzA BK102 0; have hcz51_1 := hzA BK102 1; have hcz51_2 := hzA BK102 2; have hcz51_3 := hzA BK102 3; have hfz51_0 := fzA BK102 0; have hfz51_1 := fzA BK102 1; have hfz51_2 := fzA BK102 2; have hfz51_3 := fzA BK102 3))
                                            refine bodyPost_ret (results_ct rfl _ _ gb102 33 #[.int .i64 0, .int .i64 0, .bool false, .bool false] (0, 0) _ rfl (by (with_reducible repeat (first | apply bN | apply bD | apply bA)); refine blk_put (cs := #[.int .i64 0, .int .i64 0, .bool false, .bool x103003_8]) ?_ 3 _ rfl; (with_reducible repeat (first | apply bN | apply bD | apply bA)); refine blk_put (cs := #[.int .i64 0, .int .i64 0, .bool x103002_8, .bool x103003_8]) ?_ 2 _ rfl; (with_reducible repeat (first | apply bN | apply bD | apply bA)); refine blk_put (cs := #[.int .i64 0, .int .i64 x103001_8, .bool x103002_8, .bool x103003_8]) ?_ 1 _ rfl; (with_reducible repeat (first | apply bN | apply bD | apply bA)); refine blk_put (cs := #[.int .i64 x103000_8, .int .i64 x103001_8, .bool x103002_8, .bool x103003_8]) ?_ 0 _ rfl; (with_reducible repeat (first | apply bN | apply bD | apply bA)); exact BK102.out) Tryd.underlying33 rfl (by kernel_rfl)) rfl ?_
                                            exact ⟨by first | rfl | (simp [errW_none, errW_some] <;> rfl) | (simp [*, errW_none, errW_some] <;> rfl), hbA⟩
                                        · rw [if_neg c45] at H
                                          exact absurd H (by simp)
                                      · rw [if_neg c44] at H
                                        have c44b0 : decide (x5_8 < (a0.size : Int)) = false := decide_eq_false c44
                                        clear c44
                                        simp only [Option.some.injEq, Prod.mk.injEq] at H
                                        obtain ⟨rfl, rfl, rfl, rfl, rfl⟩ := H
                                        have hnb52 := NB103_102.out; have hnc52 := NB102_103.out; have hcz53_0 := hzA BK103 0; have hcz53_1 := hzA BK103 1; have hcz53_2 := hzA BK103 2; have hcz53_3 := hzA BK103 3; have hfz53_0 := fzA BK103 0; have hfz53_1 := fzA BK103 1; have hfz53_2 := fzA BK103 2; have hfz53_3 := fzA BK103 3; have hcz54_0 := hzA BK102 0; have hcz54_1 := hzA BK102 1; have hcz54_2 := hzA BK102 2; have hcz54_3 := hzA BK102 3; have hfz54_0 := fzA BK102 0; have hfz54_1 := fzA BK102 1; have hfz54_2 := fzA BK102 2; have hfz54_3 := fzA BK102 3
                                        go_wp2
                                        refine bodyPost_ret (results_ct rfl _ _ gb102 33 #[.int .i64 (wrap64 (x7_10 - 1)), .int .i64 (wrap64 (x10_8 - 1)), .bool x104002_6, .bool x104003_30] (0, 0) _ rfl (by (with_reducible repeat (first | apply bN | apply bD | apply bA)); refine blk_put (cs := #[.int .i64 (wrap64 (x7_10 - 1)), .int .i64 (wrap64 (x10_8 - 1)), .bool x104002_6, .bool x103003_8]) ?_ 3 _ rfl; (with_reducible repeat (first | apply bN | apply bD | apply bA)); refine blk_put (cs := #[.int .i64 (wrap64 (x7_10 - 1)), .int .i64 (wrap64 (x10_8 - 1)), .bool x103002_8, .bool x103003_8]) ?_ 2 _ rfl; (with_reducible repeat (first | apply bN | apply bD | apply bA)); refine blk_put (cs := #[.int .i64 (wrap64 (x7_10 - 1)), .int .i64 x103001_8, .bool x103002_8, .bool x103003_8]) ?_ 1 _ rfl; (with_reducible repeat (first | apply bN | apply bD | apply bA)); refine blk_put (cs := #[.int .i64 x103000_8, .int .i64 x103001_8, .bool x103002_8, .bool x103003_8]) ?_ 0 _ rfl; (with_reducible repeat (first | apply bN | apply bD | apply bA)); refine blk_far ?_ NB102_103.out _; (with_reducible repeat (first | apply bN | apply bD | apply bA)); refine blk_far ?_ NB102_103.out _; (with_reducible repeat (first | apply bN | apply bD | apply bA)); exact BK102.out) Tryd.underlying33 rfl (by kernel_rfl)) rfl ?_
                                        exact ⟨by first | rfl | (simp [errW_none, errW_some] <;> rfl) | (simp [*, errW_none, errW_some] <;> rfl), hbA⟩

end Go.Proofs.YtpljbpndooilgaaDoor.PAddrReads
