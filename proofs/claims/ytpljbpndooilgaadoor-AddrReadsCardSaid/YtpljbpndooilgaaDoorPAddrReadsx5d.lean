/- Contracts of functions that the law comes to, written by a program (wip/hp of the repo) out of the translation; Lean checks them. -/
import Derived.Test.YtpljbpndooilgaaDoorPAddrReadsx0
import Derived.Test.YtpljbpndooilgaaDoorPAddrReadsx1
import Derived.Test.YtpljbpndooilgaaDoorPAddrReadsx2
namespace Go.Proofs.YtpljbpndooilgaaDoor.PAddrReads
open Go.RowKit Go.Proofs.YtpljbpndooilgaaDoorW.PrintWords Go.Proofs.YtpljbpndooilgaaDoorW.PrintLast Go.Proofs.YtpljbpndooilgaaDoorW.PrintMore
attribute [local go_sem] max2_int min2_int max_two min_two max_three min_three max_four min_four   -- for this text's walks alone
set_option linter.unusedVariables false
set_option linter.unusedSimpArgs false

/-! ### latticeref04_Parse: function 26 -/
mutual
def latticeref04_Parse.j0 : Nat → ByteArray → Bool → ByteArray → ByteArray → Int → Int → Bool → Bool → Int → Int → Bool → Bool → Bool → Option (ByteArray × ByteArray × Int × Int × Bool × Bool × Int × Int × Bool × Bool × Bool × Int)
  | 0, _, _, _, _, _, _, _, _, _, _, _, _, _ => none
  | k + 1, x0, x27, x162000, x162001, x162002, x162003, x162004, x162005, x162006, x162007, x162008, x162009, x162010 => if x27 = true then ((gv_find.f x0 93).bind fun t162 => (if t162 < 0 then (some ((⟨#[]⟩ : ByteArray), (⟨#[]⟩ : ByteArray), 0, 0, false, false, 0, 0, false, false, false, 4)) else (if 1 ≤ t162 then (if t162 ≤ (x0.size : Int) then (if 0 ≤ (wrap64 (t162 + 1)) then (if (wrap64 (t162 + 1)) ≤ (x0.size : Int) then ((gv_refName.f (x0.extract 1 (t162 : Int).toNat)).bind fun t163 => (if t163 = true then (latticeref04_Parse.j1 k (x0.extract ((wrap64 (t162 + 1)) : Int).toNat x0.size) (x0.extract 1 (t162 : Int).toNat) x162001 x162002 x162003 x162004 x162005 x162006 x162007 x162008 x162009 x162010) else (some ((⟨#[]⟩ : ByteArray), (⟨#[]⟩ : ByteArray), 0, 0, false, false, 0, 0, false, false, false, 4)))) else (none)) else (none)) else (none)) else (none)))) else (latticeref04_Parse.j1 k x0 x162000 x162001 x162002 x162003 x162004 x162005 x162006 x162007 x162008 x162009 x162010)
def latticeref04_Parse.j1 : Nat → ByteArray → ByteArray → ByteArray → Int → Int → Bool → Bool → Int → Int → Bool → Bool → Bool → Option (ByteArray × ByteArray × Int × Int × Bool × Bool × Int × Int × Bool × Bool × Bool × Int)
  | 0, _, _, _, _, _, _, _, _, _, _, _, _ => none
  | k + 1, x0, x162000, x162001, x162002, x162003, x162004, x162005, x162006, x162007, x162008, x162009, x162010 => (gv_find.f x0 33).bind fun t164 => (if t164 ≥ 0 then (if 0 ≤ t164 then (if t164 ≤ (x0.size : Int) then (if 0 ≤ (wrap64 (t164 + 1)) then (if (wrap64 (t164 + 1)) ≤ (x0.size : Int) then ((gv_refName.f (x0.extract 0 (t164 : Int).toNat)).bind fun t165 => (if t165 = true then (latticeref04_Parse.j2 k (x0.extract ((wrap64 (t164 + 1)) : Int).toNat x0.size) x162000 (x0.extract 0 (t164 : Int).toNat) x162002 x162003 x162004 x162005 x162006 x162007 x162008 x162009 x162010) else (some ((⟨#[]⟩ : ByteArray), (⟨#[]⟩ : ByteArray), 0, 0, false, false, 0, 0, false, false, false, 4)))) else (none)) else (none)) else (none)) else (none)) else (latticeref04_Parse.j2 k x0 x162000 x162001 x162002 x162003 x162004 x162005 x162006 x162007 x162008 x162009 x162010))
def latticeref04_Parse.j2 : Nat → ByteArray → ByteArray → ByteArray → Int → Int → Bool → Bool → Int → Int → Bool → Bool → Bool → Option (ByteArray × ByteArray × Int × Int × Bool × Bool × Int × Int × Bool × Bool × Bool × Int)
  | 0, _, _, _, _, _, _, _, _, _, _, _, _ => none
  | k + 1, x0, x162000, x162001, x162002, x162003, x162004, x162005, x162006, x162007, x162008, x162009, x162010 => if x162000.toList = ([] : List UInt8) then (latticeref04_Parse.j3 k x0 false x162000 x162001 x162002 x162003 x162004 x162005 x162006 x162007 x162008 x162009 x162010) else (latticeref04_Parse.j3 k x0 (x162001.toList == ([] : List UInt8)) x162000 x162001 x162002 x162003 x162004 x162005 x162006 x162007 x162008 x162009 x162010)
def latticeref04_Parse.j3 : Nat → ByteArray → Bool → ByteArray → ByteArray → Int → Int → Bool → Bool → Int → Int → Bool → Bool → Bool → Option (ByteArray × ByteArray × Int × Int × Bool × Bool × Int × Int × Bool × Bool × Bool × Int)
  | 0, _, _, _, _, _, _, _, _, _, _, _, _, _ => none
  | k + 1, x0, x72, x162000, x162001, x162002, x162003, x162004, x162005, x162006, x162007, x162008, x162009, x162010 => if x72 = true then (some ((⟨#[]⟩ : ByteArray), (⟨#[]⟩ : ByteArray), 0, 0, false, false, 0, 0, false, false, false, 4)) else ((gv_find.f x0 58).bind fun t166 => (if t166 ≥ 0 then (if 0 ≤ t166 then (if t166 ≤ (x0.size : Int) then (if 0 ≤ (wrap64 (t166 + 1)) then (if (wrap64 (t166 + 1)) ≤ (x0.size : Int) then (latticeref04_Parse.j4 k t166 (x0.extract 0 (t166 : Int).toNat) (x0.extract ((wrap64 (t166 + 1)) : Int).toNat x0.size) x162000 x162001 x162002 x162003 x162004 x162005 x162006 x162007 x162008 x162009 x162010) else (none)) else (none)) else (none)) else (none)) else (latticeref04_Parse.j4 k t166 x0 (⟨#[]⟩ : ByteArray) x162000 x162001 x162002 x162003 x162004 x162005 x162006 x162007 x162008 x162009 x162010)))
def latticeref04_Parse.j4 : Nat → Int → ByteArray → ByteArray → ByteArray → ByteArray → Int → Int → Bool → Bool → Int → Int → Bool → Bool → Bool → Option (ByteArray × ByteArray × Int × Int × Bool × Bool × Int × Int × Bool × Bool × Bool × Int)
  | 0, _, _, _, _, _, _, _, _, _, _, _, _, _, _ => none
  | k + 1, x9, x10, x11, x162000, x162001, x162002, x162003, x162004, x162005, x162006, x162007, x162008, x162009, x162010 => (latticeref04_Ref1.f k x10).bind fun bt167 => (if bt167.2.2.2.2 = true then ((latticeref04_Cell.f bt167.1 bt167.2.1).bind fun t173 => (if x9 < 0 then (if t173 = true then (some (x162000, x162001, bt167.1, bt167.2.1, bt167.2.2.1, bt167.2.2.2.1, x162006, x162007, x162008, x162009, x162010, 0)) else (some ((⟨#[]⟩ : ByteArray), (⟨#[]⟩ : ByteArray), 0, 0, false, false, 0, 0, false, false, false, 3))) else ((latticeref04_Ref1.f k x11).bind fun bt174 => (if bt174.2.2.2.2 = true then ((latticeref04_Cell.f bt174.1 bt174.2.1).bind fun t180 => (if t173 = true then (latticeref04_Parse.j5 k (!t180) x162000 x162001 x162002 x162003 x162004 x162005 x162006 x162007 x162008 x162009 x162010 bt167.1 bt167.2.1 bt167.2.2.1 bt167.2.2.2.1 bt174.1 bt174.2.1 bt174.2.2.1 bt174.2.2.2.1) else (latticeref04_Parse.j5 k true x162000 x162001 x162002 x162003 x162004 x162005 x162006 x162007 x162008 x162009 x162010 bt167.1 bt167.2.1 bt167.2.2.1 bt167.2.2.2.1 bt174.1 bt174.2.1 bt174.2.2.1 bt174.2.2.2.1))) else (some ((⟨#[]⟩ : ByteArray), (⟨#[]⟩ : ByteArray), 0, 0, false, false, 0, 0, false, false, false, 4)))))) else (some ((⟨#[]⟩ : ByteArray), (⟨#[]⟩ : ByteArray), 0, 0, false, false, 0, 0, false, false, false, 4)))
def latticeref04_Parse.j5 : Nat → Bool → ByteArray → ByteArray → Int → Int → Bool → Bool → Int → Int → Bool → Bool → Bool → Int → Int → Bool → Bool → Int → Int → Bool → Bool → Option (ByteArray × ByteArray × Int × Int × Bool × Bool × Int × Int × Bool × Bool × Bool × Int)
  | 0, _, _, _, _, _, _, _, _, _, _, _, _, _, _, _, _, _, _, _, _ => none
  | k + 1, x125, x162000, x162001, x162002, x162003, x162004, x162005, x162006, x162007, x162008, x162009, x162010, x173000, x173001, x173002, x173003, x180000, x180001, x180002, x180003 => if x125 = true then (some ((⟨#[]⟩ : ByteArray), (⟨#[]⟩ : ByteArray), 0, 0, false, false, 0, 0, false, false, false, 3)) else (if x180000 < x173000 then (latticeref04_Parse.j6 k x162000 x162001 x180000 x173001 x180002 x173003 x173000 x180001 x173002 x180003 true x173000 x173001 x173002 x173003 x180000 x180001 x180002 x180003) else (latticeref04_Parse.j6 k x162000 x162001 x173000 x173001 x173002 x173003 x180000 x180001 x180002 x180003 true x173000 x173001 x173002 x173003 x180000 x180001 x180002 x180003))
def latticeref04_Parse.j6 : Nat → ByteArray → ByteArray → Int → Int → Bool → Bool → Int → Int → Bool → Bool → Bool → Int → Int → Bool → Bool → Int → Int → Bool → Bool → Option (ByteArray × ByteArray × Int × Int × Bool × Bool × Int × Int × Bool × Bool × Bool × Int)
  | 0, _, _, _, _, _, _, _, _, _, _, _, _, _, _, _, _, _, _, _ => none
  | k + 1, x162000, x162001, x162002, x162003, x162004, x162005, x162006, x162007, x162008, x162009, x162010, x173000, x173001, x173002, x173003, x180000, x180001, x180002, x180003 => if x180001 < x173001 then ((gv_refArea.f x162002 x180001 x162004 x180003 x162006 x173001 x162008 x173003).bind fun bt181 => (if bt181.1 = true then (some (x162000, x162001, x162002, x180001, x162004, x180003, x162006, x173001, x162008, x173003, x162010, 0)) else (some ((⟨#[]⟩ : ByteArray), (⟨#[]⟩ : ByteArray), 0, 0, false, false, 0, 0, false, false, false, 7)))) else ((gv_refArea.f x162002 x162003 x162004 x162005 x162006 x162007 x162008 x162009).bind fun bt183 => (if bt183.1 = true then (some (x162000, x162001, x162002, x162003, x162004, x162005, x162006, x162007, x162008, x162009, x162010, 0)) else (some ((⟨#[]⟩ : ByteArray), (⟨#[]⟩ : ByteArray), 0, 0, false, false, 0, 0, false, false, false, 7))))
end
def latticeref04_Parse.f (k : Nat) (a0 : ByteArray) : Option (ByteArray × ByteArray × Int × Int × Bool × Bool × Int × Int × Bool × Bool × Bool × Int) := if (a0.size : Int) > 0 then (if 0 < (a0.size : Int) then (latticeref04_Parse.j0 k a0 ((bt a0 0) == 91) (⟨#[]⟩ : ByteArray) (⟨#[]⟩ : ByteArray) 0 0 false false 0 0 false false false) else (none)) else (latticeref04_Parse.j0 k a0 false (⟨#[]⟩ : ByteArray) (⟨#[]⟩ : ByteArray) 0 0 false false 0 0 false false false)
theorem latticeref04_Parse.mono_l : ∀ k, (∀ y0 y1 y2 y3 y4 y5 y6 y7 y8 y9 y10 y11 y12, LeO (latticeref04_Parse.j0 k y0 y1 y2 y3 y4 y5 y6 y7 y8 y9 y10 y11 y12) (latticeref04_Parse.j0 (k + 1) y0 y1 y2 y3 y4 y5 y6 y7 y8 y9 y10 y11 y12)) ∧ (∀ y0 y1 y2 y3 y4 y5 y6 y7 y8 y9 y10 y11, LeO (latticeref04_Parse.j1 k y0 y1 y2 y3 y4 y5 y6 y7 y8 y9 y10 y11) (latticeref04_Parse.j1 (k + 1) y0 y1 y2 y3 y4 y5 y6 y7 y8 y9 y10 y11)) ∧ (∀ y0 y1 y2 y3 y4 y5 y6 y7 y8 y9 y10 y11, LeO (latticeref04_Parse.j2 k y0 y1 y2 y3 y4 y5 y6 y7 y8 y9 y10 y11) (latticeref04_Parse.j2 (k + 1) y0 y1 y2 y3 y4 y5 y6 y7 y8 y9 y10 y11)) ∧ (∀ y0 y1 y2 y3 y4 y5 y6 y7 y8 y9 y10 y11 y12, LeO (latticeref04_Parse.j3 k y0 y1 y2 y3 y4 y5 y6 y7 y8 y9 y10 y11 y12) (latticeref04_Parse.j3 (k + 1) y0 y1 y2 y3 y4 y5 y6 y7 y8 y9 y10 y11 y12)) ∧ (∀ y0 y1 y2 y3 y4 y5 y6 y7 y8 y9 y10 y11 y12 y13, LeO (latticeref04_Parse.j4 k y0 y1 y2 y3 y4 y5 y6 y7 y8 y9 y10 y11 y12 y13) (latticeref04_Parse.j4 (k + 1) y0 y1 y2 y3 y4 y5 y6 y7 y8 y9 y10 y11 y12 y13)) ∧ (∀ y0 y1 y2 y3 y4 y5 y6 y7 y8 y9 y10 y11 y12 y13 y14 y15 y16 y17 y18 y19, LeO (latticeref04_Parse.j5 k y0 y1 y2 y3 y4 y5 y6 y7 y8 y9 y10 y11 y12 y13 y14 y15 y16 y17 y18 y19) (latticeref04_Parse.j5 (k + 1) y0 y1 y2 y3 y4 y5 y6 y7 y8 y9 y10 y11 y12 y13 y14 y15 y16 y17 y18 y19)) ∧ (∀ y0 y1 y2 y3 y4 y5 y6 y7 y8 y9 y10 y11 y12 y13 y14 y15 y16 y17 y18, LeO (latticeref04_Parse.j6 k y0 y1 y2 y3 y4 y5 y6 y7 y8 y9 y10 y11 y12 y13 y14 y15 y16 y17 y18) (latticeref04_Parse.j6 (k + 1) y0 y1 y2 y3 y4 y5 y6 y7 y8 y9 y10 y11 y12 y13 y14 y15 y16 y17 y18))
  | 0 => ⟨fun _ _ _ _ _ _ _ _ _ _ _ _ _ r h => by simp [latticeref04_Parse.j0] at h, fun _ _ _ _ _ _ _ _ _ _ _ _ r h => by simp [latticeref04_Parse.j1] at h, fun _ _ _ _ _ _ _ _ _ _ _ _ r h => by simp [latticeref04_Parse.j2] at h, fun _ _ _ _ _ _ _ _ _ _ _ _ _ r h => by simp [latticeref04_Parse.j3] at h, fun _ _ _ _ _ _ _ _ _ _ _ _ _ _ r h => by simp [latticeref04_Parse.j4] at h, fun _ _ _ _ _ _ _ _ _ _ _ _ _ _ _ _ _ _ _ _ r h => by simp [latticeref04_Parse.j5] at h, fun _ _ _ _ _ _ _ _ _ _ _ _ _ _ _ _ _ _ _ r h => by simp [latticeref04_Parse.j6] at h⟩
  | k + 1 => by
    obtain ⟨ih0, ih1, ih2, ih3, ih4, ih5, ih6⟩ := latticeref04_Parse.mono_l k
    refine ⟨?_, ?_, ?_, ?_, ?_, ?_, ?_⟩
    · intro y0 y1 y2 y3 y4 y5 y6 y7 y8 y9 y10 y11 y12
      unfold latticeref04_Parse.j0
      repeat' first
      | (with_reducible exact ih0 _ _ _ _ _ _ _ _ _ _ _ _ _)
      | (with_reducible exact ih1 _ _ _ _ _ _ _ _ _ _ _ _)
      | (with_reducible exact ih2 _ _ _ _ _ _ _ _ _ _ _ _)
      | (with_reducible exact ih3 _ _ _ _ _ _ _ _ _ _ _ _ _)
      | (with_reducible exact ih4 _ _ _ _ _ _ _ _ _ _ _ _ _ _)
      | (with_reducible exact ih5 _ _ _ _ _ _ _ _ _ _ _ _ _ _ _ _ _ _ _ _)
      | (with_reducible exact ih6 _ _ _ _ _ _ _ _ _ _ _ _ _ _ _ _ _ _ _)
      | (with_reducible exact latticeref04_Ref1.mono _ _)
      | (with_reducible exact LeO.refl _)
      | (with_reducible exact LeO.none _)
      | (with_reducible refine LeO.ite ?_ ?_)
      | (with_reducible refine LeO.bind ?_ (fun _ => ?_))
      | exact ih0 _ _ _ _ _ _ _ _ _ _ _ _ _
      | exact ih1 _ _ _ _ _ _ _ _ _ _ _ _
      | exact ih2 _ _ _ _ _ _ _ _ _ _ _ _
      | exact ih3 _ _ _ _ _ _ _ _ _ _ _ _ _
      | exact ih4 _ _ _ _ _ _ _ _ _ _ _ _ _ _
      | exact ih5 _ _ _ _ _ _ _ _ _ _ _ _ _ _ _ _ _ _ _ _
      | exact ih6 _ _ _ _ _ _ _ _ _ _ _ _ _ _ _ _ _ _ _
      | exact latticeref04_Ref1.mono _ _
      | exact LeO.none _
      | refine LeO.ite ?_ ?_
      | refine LeO.bind ?_ (fun _ => ?_)
    · intro y0 y1 y2 y3 y4 y5 y6 y7 y8 y9 y10 y11
      unfold latticeref04_Parse.j1
      repeat' first
      | (with_reducible exact ih0 _ _ _ _ _ _ _ _ _ _ _ _ _)
      | (with_reducible exact ih1 _ _ _ _ _ _ _ _ _ _ _ _)
      | (with_reducible exact ih2 _ _ _ _ _ _ _ _ _ _ _ _)
      | (with_reducible exact ih3 _ _ _ _ _ _ _ _ _ _ _ _ _)
      | (with_reducible exact ih4 _ _ _ _ _ _ _ _ _ _ _ _ _ _)
      | (with_reducible exact ih5 _ _ _ _ _ _ _ _ _ _ _ _ _ _ _ _ _ _ _ _)
      | (with_reducible exact ih6 _ _ _ _ _ _ _ _ _ _ _ _ _ _ _ _ _ _ _)
      | (with_reducible exact latticeref04_Ref1.mono _ _)
      | (with_reducible exact LeO.refl _)
      | (with_reducible exact LeO.none _)
      | (with_reducible refine LeO.ite ?_ ?_)
      | (with_reducible refine LeO.bind ?_ (fun _ => ?_))
      | exact ih0 _ _ _ _ _ _ _ _ _ _ _ _ _
      | exact ih1 _ _ _ _ _ _ _ _ _ _ _ _
      | exact ih2 _ _ _ _ _ _ _ _ _ _ _ _
      | exact ih3 _ _ _ _ _ _ _ _ _ _ _ _ _
      | exact ih4 _ _ _ _ _ _ _ _ _ _ _ _ _ _
      | exact ih5 _ _ _ _ _ _ _ _ _ _ _ _ _ _ _ _ _ _ _ _
      | exact ih6 _ _ _ _ _ _ _ _ _ _ _ _ _ _ _ _ _ _ _
      | exact latticeref04_Ref1.mono _ _
      | exact LeO.none _
      | refine LeO.ite ?_ ?_
      | refine LeO.bind ?_ (fun _ => ?_)
    · intro y0 y1 y2 y3 y4 y5 y6 y7 y8 y9 y10 y11
      unfold latticeref04_Parse.j2
      repeat' first
      | (with_reducible exact ih0 _ _ _ _ _ _ _ _ _ _ _ _ _)
      | (with_reducible exact ih1 _ _ _ _ _ _ _ _ _ _ _ _)
      | (with_reducible exact ih2 _ _ _ _ _ _ _ _ _ _ _ _)
      | (with_reducible exact ih3 _ _ _ _ _ _ _ _ _ _ _ _ _)
      | (with_reducible exact ih4 _ _ _ _ _ _ _ _ _ _ _ _ _ _)
      | (with_reducible exact ih5 _ _ _ _ _ _ _ _ _ _ _ _ _ _ _ _ _ _ _ _)
      | (with_reducible exact ih6 _ _ _ _ _ _ _ _ _ _ _ _ _ _ _ _ _ _ _)
      | (with_reducible exact latticeref04_Ref1.mono _ _)
      | (with_reducible exact LeO.refl _)
      | (with_reducible exact LeO.none _)
      | (with_reducible refine LeO.ite ?_ ?_)
      | (with_reducible refine LeO.bind ?_ (fun _ => ?_))
      | exact ih0 _ _ _ _ _ _ _ _ _ _ _ _ _
      | exact ih1 _ _ _ _ _ _ _ _ _ _ _ _
      | exact ih2 _ _ _ _ _ _ _ _ _ _ _ _
      | exact ih3 _ _ _ _ _ _ _ _ _ _ _ _ _
      | exact ih4 _ _ _ _ _ _ _ _ _ _ _ _ _ _
      | exact ih5 _ _ _ _ _ _ _ _ _ _ _ _ _ _ _ _ _ _ _ _
      | exact ih6 _ _ _ _ _ _ _ _ _ _ _ _ _ _ _ _ _ _ _
      | exact latticeref04_Ref1.mono _ _
      | exact LeO.none _
      | refine LeO.ite ?_ ?_
      | refine LeO.bind ?_ (fun _ => ?_)
    · intro y0 y1 y2 y3 y4 y5 y6 y7 y8 y9 y10 y11 y12
      unfold latticeref04_Parse.j3
      repeat' first
      | (with_reducible exact ih0 _ _ _ _ _ _ _ _ _ _ _ _ _)
      | (with_reducible exact ih1 _ _ _ _ _ _ _ _ _ _ _ _)
      | (with_reducible exact ih2 _ _ _ _ _ _ _ _ _ _ _ _)
      | (with_reducible exact ih3 _ _ _ _ _ _ _ _ _ _ _ _ _)
      | (with_reducible exact ih4 _ _ _ _ _ _ _ _ _ _ _ _ _ _)
      | (with_reducible exact ih5 _ _ _ _ _ _ _ _ _ _ _ _ _ _ _ _ _ _ _ _)
      | (with_reducible exact ih6 _ _ _ _ _ _ _ _ _ _ _ _ _ _ _ _ _ _ _)
      | (with_reducible exact latticeref04_Ref1.mono _ _)
      | (with_reducible exact LeO.refl _)
      | (with_reducible exact LeO.none _)
      | (with_reducible refine LeO.ite ?_ ?_)
      | (with_reducible refine LeO.bind ?_ (fun _ => ?_))
      | exact ih0 _ _ _ _ _ _ _ _ _ _ _ _ _
      | exact ih1 _ _ _ _ _ _ _ _ _ _ _ _
      | exact ih2 _ _ _ _ _ _ _ _ _ _ _ _
      | exact ih3 _ _ _ _ _ _ _ _ _ _ _ _ _
      | exact ih4 _ _ _ _ _ _ _ _ _ _ _ _ _ _
      | exact ih5 _ _ _ _ _ _ _ _ _ _ _ _ _ _ _ _ _ _ _ _
      | exact ih6 _ _ _ _ _ _ _ _ _ _ _ _ _ _ _ _ _ _ _
      | exact latticeref04_Ref1.mono _ _
      | exact LeO.none _
      | refine LeO.ite ?_ ?_
      | refine LeO.bind ?_ (fun _ => ?_)
    · intro y0 y1 y2 y3 y4 y5 y6 y7 y8 y9 y10 y11 y12 y13
      unfold latticeref04_Parse.j4
      repeat' first
      | (with_reducible exact ih0 _ _ _ _ _ _ _ _ _ _ _ _ _)
      | (with_reducible exact ih1 _ _ _ _ _ _ _ _ _ _ _ _)
      | (with_reducible exact ih2 _ _ _ _ _ _ _ _ _ _ _ _)
      | (with_reducible exact ih3 _ _ _ _ _ _ _ _ _ _ _ _ _)
      | (with_reducible exact ih4 _ _ _ _ _ _ _ _ _ _ _ _ _ _)
      | (with_reducible exact ih5 _ _ _ _ _ _ _ _ _ _ _ _ _ _ _ _ _ _ _ _)
      | (with_reducible exact ih6 _ _ _ _ _ _ _ _ _ _ _ _ _ _ _ _ _ _ _)
      | (with_reducible exact latticeref04_Ref1.mono _ _)
      | (with_reducible exact LeO.refl _)
      | (with_reducible exact LeO.none _)
      | (with_reducible refine LeO.ite ?_ ?_)
      | (with_reducible refine LeO.bind ?_ (fun _ => ?_))
      | exact ih0 _ _ _ _ _ _ _ _ _ _ _ _ _
      | exact ih1 _ _ _ _ _ _ _ _ _ _ _ _
      | exact ih2 _ _ _ _ _ _ _ _ _ _ _ _
      | exact ih3 _ _ _ _ _ _ _ _ _ _ _ _ _
      | exact ih4 _ _ _ _ _ _ _ _ _ _ _ _ _ _
      | exact ih5 _ _ _ _ _ _ _ _ _ _ _ _ _ _ _ _ _ _ _ _
      | exact ih6 _ _ _ _ _ _ _ _ _ _ _ _ _ _ _ _ _ _ _
      | exact latticeref04_Ref1.mono _ _
      | exact LeO.none _
      | refine LeO.ite ?_ ?_
      | refine LeO.bind ?_ (fun _ => ?_)
    · intro y0 y1 y2 y3 y4 y5 y6 y7 y8 y9 y10 y11 y12 y13 y14 y15 y16 y17 y18 y19
      unfold latticeref04_Parse.j5
      repeat' first
      | (with_reducible exact ih0 _ _ _ _ _ _ _ _ _ _ _ _ _)
      | (with_reducible exact ih1 _ _ _ _ _ _ _ _ _ _ _ _)
      | (with_reducible exact ih2 _ _ _ _ _ _ _ _ _ _ _ _)
      | (with_reducible exact ih3 _ _ _ _ _ _ _ _ _ _ _ _ _)
      | (with_reducible exact ih4 _ _ _ _ _ _ _ _ _ _ _ _ _ _)
      | (with_reducible exact ih5 _ _ _ _ _ _ _ _ _ _ _ _ _ _ _ _ _ _ _ _)
      | (with_reducible exact ih6 _ _ _ _ _ _ _ _ _ _ _ _ _ _ _ _ _ _ _)
      | (with_reducible exact latticeref04_Ref1.mono _ _)
      | (with_reducible exact LeO.refl _)
      | (with_reducible exact LeO.none _)
      | (with_reducible refine LeO.ite ?_ ?_)
      | (with_reducible refine LeO.bind ?_ (fun _ => ?_))
      | exact ih0 _ _ _ _ _ _ _ _ _ _ _ _ _
      | exact ih1 _ _ _ _ _ _ _ _ _ _ _ _
      | exact ih2 _ _ _ _ _ _ _ _ _ _ _ _
      | exact ih3 _ _ _ _ _ _ _ _ _ _ _ _ _
      | exact ih4 _ _ _ _ _ _ _ _ _ _ _ _ _ _
      | exact ih5 _ _ _ _ _ _ _ _ _ _ _ _ _ _ _ _ _ _ _ _
      | exact ih6 _ _ _ _ _ _ _ _ _ _ _ _ _ _ _ _ _ _ _
      | exact latticeref04_Ref1.mono _ _
      | exact LeO.none _
      | refine LeO.ite ?_ ?_
      | refine LeO.bind ?_ (fun _ => ?_)
    · intro y0 y1 y2 y3 y4 y5 y6 y7 y8 y9 y10 y11 y12 y13 y14 y15 y16 y17 y18
      unfold latticeref04_Parse.j6
      repeat' first
      | (with_reducible exact ih0 _ _ _ _ _ _ _ _ _ _ _ _ _)
      | (with_reducible exact ih1 _ _ _ _ _ _ _ _ _ _ _ _)
      | (with_reducible exact ih2 _ _ _ _ _ _ _ _ _ _ _ _)
      | (with_reducible exact ih3 _ _ _ _ _ _ _ _ _ _ _ _ _)
      | (with_reducible exact ih4 _ _ _ _ _ _ _ _ _ _ _ _ _ _)
      | (with_reducible exact ih5 _ _ _ _ _ _ _ _ _ _ _ _ _ _ _ _ _ _ _ _)
      | (with_reducible exact ih6 _ _ _ _ _ _ _ _ _ _ _ _ _ _ _ _ _ _ _)
      | (with_reducible exact latticeref04_Ref1.mono _ _)
      | (with_reducible exact LeO.refl _)
      | (with_reducible exact LeO.none _)
      | (with_reducible refine LeO.ite ?_ ?_)
      | (with_reducible refine LeO.bind ?_ (fun _ => ?_))
      | exact ih0 _ _ _ _ _ _ _ _ _ _ _ _ _
      | exact ih1 _ _ _ _ _ _ _ _ _ _ _ _
      | exact ih2 _ _ _ _ _ _ _ _ _ _ _ _
      | exact ih3 _ _ _ _ _ _ _ _ _ _ _ _ _
      | exact ih4 _ _ _ _ _ _ _ _ _ _ _ _ _ _
      | exact ih5 _ _ _ _ _ _ _ _ _ _ _ _ _ _ _ _ _ _ _ _
      | exact ih6 _ _ _ _ _ _ _ _ _ _ _ _ _ _ _ _ _ _ _
      | exact latticeref04_Ref1.mono _ _
      | exact LeO.none _
      | refine LeO.ite ?_ ?_
      | refine LeO.bind ?_ (fun _ => ?_)
theorem latticeref04_Parse.mono : ∀ a0 k, LeO (latticeref04_Parse.f k a0) (latticeref04_Parse.f (k + 1) a0) := by
  intro a0 k
  obtain ⟨ih0, ih1, ih2, ih3, ih4, ih5, ih6⟩ := latticeref04_Parse.mono_l k
  unfold latticeref04_Parse.f
  repeat' first
      | (with_reducible exact ih0 _ _ _ _ _ _ _ _ _ _ _ _ _)
      | (with_reducible exact ih1 _ _ _ _ _ _ _ _ _ _ _ _)
      | (with_reducible exact ih2 _ _ _ _ _ _ _ _ _ _ _ _)
      | (with_reducible exact ih3 _ _ _ _ _ _ _ _ _ _ _ _ _)
      | (with_reducible exact ih4 _ _ _ _ _ _ _ _ _ _ _ _ _ _)
      | (with_reducible exact ih5 _ _ _ _ _ _ _ _ _ _ _ _ _ _ _ _ _ _ _ _)
      | (with_reducible exact ih6 _ _ _ _ _ _ _ _ _ _ _ _ _ _ _ _ _ _ _)
      | (with_reducible exact latticeref04_Ref1.mono _ _)
      | (with_reducible exact LeO.refl _)
      | (with_reducible exact LeO.none _)
      | (with_reducible refine LeO.ite ?_ ?_)
      | (with_reducible refine LeO.bind ?_ (fun _ => ?_))
      | exact ih0 _ _ _ _ _ _ _ _ _ _ _ _ _
      | exact ih1 _ _ _ _ _ _ _ _ _ _ _ _
      | exact ih2 _ _ _ _ _ _ _ _ _ _ _ _
      | exact ih3 _ _ _ _ _ _ _ _ _ _ _ _ _
      | exact ih4 _ _ _ _ _ _ _ _ _ _ _ _ _ _
      | exact ih5 _ _ _ _ _ _ _ _ _ _ _ _ _ _ _ _ _ _ _ _
      | exact ih6 _ _ _ _ _ _ _ _ _ _ _ _ _ _ _ _ _ _ _
      | exact latticeref04_Ref1.mono _ _
      | exact LeO.none _
      | refine LeO.ite ?_ ?_
      | refine LeO.bind ?_ (fun _ => ?_)
end Go.Proofs.YtpljbpndooilgaaDoor.PAddrReads
