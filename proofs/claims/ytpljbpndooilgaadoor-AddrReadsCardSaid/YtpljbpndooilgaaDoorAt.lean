/- A law's reference as plain data, as an argument lies in memory; what the listed variables give. -/
import Derived.Test.YtpljbpndooilgaaDoorAd
import Derived.Test.YtpljbpndooilgaaDoorRows
import Derived.ProofKit
import Derived.OpenShut
import Derived.ShutString
import Derived.SizedLaws
import Derived.LaidMore
import Derived.Lib.LaidTab
import Derived.Stop.Joined
import Derived.Stop.LaidErr
namespace Go.Proofs.YtpljbpndooilgaaDoor
set_option linter.unusedVariables false
set_option linter.unusedSimpArgs false
open Go.ChangeShapes Go.WideShapes Go.ChangeAt Go.RowKit
open Go.ChangeMaps (open_string shut_string)

abbrev lawV (b s : ByteArray) (c r c' r' : Int) (f g f' g' wd : Bool) : Value := .agg #[.string b, .string s, .int .i64 c, .int .i64 r, .int .i64 c', .int .i64 r', .bool f, .bool g, .bool f', .bool g', .bool wd]

set_option maxRecDepth 100000 in
theorem open_law {H : Type} {enc : TypeId × Value → H} {W : World} {base : Nat} {sp : Nat → Bool} {held : Bool} {b0 : Nat} {v : Value} {d : DataW H} {p : List MemPlace}
    (hv : Value.okWide Tryd.prog W .any base 25 v) (h : DataW.Trod enc Tryd.prog W b0 sp held 25 v d p) :
    ∃ b s c r c' r' f g f' g' wd, v = lawV b s c r c' r' f g f' g' wd ∧ b.size ≤ maxLen ∧ s.size ≤ maxLen := by
  obtain ⟨⟨cs⟩, rfl, hsz⟩ := okWide_struct Tryd.underlying25 hv
  obtain ⟨fuel, hf⟩ := h
  have k0 : Tryd.prog.cellsOf 25 = 11 := by kernel_rfl
  have k1 : Tryd.prog.cellsOf 9 = 1 := by kernel_rfl
  have k2 : Tryd.prog.cellsOf 22 = 2 := by kernel_rfl
  have k3 : Tryd.prog.cellsOf 23 = 4 := by kernel_rfl
  have k4 : Tryd.prog.cellsOf 4 = 1 := by kernel_rfl
  have k5 : Tryd.prog.cellsOf 3 = 1 := by kernel_rfl
  rw [k0] at hsz
  match cs, hsz, hf with
  | [c0, c1, c2, c3, c4, c5, c6, c7, c8, c9, c10], _, hf =>
    obtain ⟨xs, n, _, _, _, hxl, hF⟩ := DataW.trod_struct Tryd.underlying25 hf
    have hxl' : xs.length = 6 := hxl
    have f0 : DataW.trod enc Tryd.prog W b0 sp held n 9 (([c0, c1, c2, c3, c4, c5, c6, c7, c8, c9, c10].drop 0).take (Tryd.prog.cellsOf 9)) = xs[0]? := hF 0 _ rfl
    rw [k1, List.getElem?_eq_getElem (show 0 < xs.length by omega)] at f0
    have f1 : DataW.trod enc Tryd.prog W b0 sp held n 9 (([c0, c1, c2, c3, c4, c5, c6, c7, c8, c9, c10].drop 1).take (Tryd.prog.cellsOf 9)) = xs[1]? := hF 1 _ rfl
    rw [k1, List.getElem?_eq_getElem (show 1 < xs.length by omega)] at f1
    have f2 : DataW.trod enc Tryd.prog W b0 sp held n 22 (([c0, c1, c2, c3, c4, c5, c6, c7, c8, c9, c10].drop 2).take (Tryd.prog.cellsOf 22)) = xs[2]? := hF 2 _ rfl
    rw [k2, List.getElem?_eq_getElem (show 2 < xs.length by omega)] at f2
    have f3 : DataW.trod enc Tryd.prog W b0 sp held n 22 (([c0, c1, c2, c3, c4, c5, c6, c7, c8, c9, c10].drop 4).take (Tryd.prog.cellsOf 22)) = xs[3]? := hF 3 _ rfl
    rw [k2, List.getElem?_eq_getElem (show 3 < xs.length by omega)] at f3
    have f4 : DataW.trod enc Tryd.prog W b0 sp held n 23 (([c0, c1, c2, c3, c4, c5, c6, c7, c8, c9, c10].drop 6).take (Tryd.prog.cellsOf 23)) = xs[4]? := hF 4 _ rfl
    rw [k3, List.getElem?_eq_getElem (show 4 < xs.length by omega)] at f4
    have f5 : DataW.trod enc Tryd.prog W b0 sp held n 4 (([c0, c1, c2, c3, c4, c5, c6, c7, c8, c9, c10].drop 10).take (Tryd.prog.cellsOf 4)) = xs[5]? := hF 5 _ rfl
    rw [k4, List.getElem?_eq_getElem (show 5 < xs.length by omega)] at f5
    obtain ⟨b, e0, _, z0⟩ := DataW.trod_string Tryd.underlying9 f0
    obtain ⟨s, e1, _, z1⟩ := DataW.trod_string Tryd.underlying9 f1
    obtain ⟨wd, e5, _⟩ := DataW.trod_bool Tryd.underlying4 f5
    obtain ⟨y2, m2, _, _, _, l2, a2⟩ := DataW.trod_array Tryd.underlying22 f2
    obtain ⟨y3, m3, _, _, _, l3, a3⟩ := DataW.trod_array Tryd.underlying22 f3
    obtain ⟨y4, m4, _, _, _, l4, a4⟩ := DataW.trod_array Tryd.underlying23 f4
    rw [k5] at a2 a3
    rw [k4] at a4
    have g0 : DataW.trod enc Tryd.prog W b0 sp held m2 3 [c2] = y2[0]? := a2 0 (by decide)
    rw [List.getElem?_eq_getElem (show 0 < y2.length by omega)] at g0
    have g1 : DataW.trod enc Tryd.prog W b0 sp held m2 3 [c3] = y2[1]? := a2 1 (by decide)
    rw [List.getElem?_eq_getElem (show 1 < y2.length by omega)] at g1
    have g2 : DataW.trod enc Tryd.prog W b0 sp held m3 3 [c4] = y3[0]? := a3 0 (by decide)
    rw [List.getElem?_eq_getElem (show 0 < y3.length by omega)] at g2
    have g3 : DataW.trod enc Tryd.prog W b0 sp held m3 3 [c5] = y3[1]? := a3 1 (by decide)
    rw [List.getElem?_eq_getElem (show 1 < y3.length by omega)] at g3
    have g4 : DataW.trod enc Tryd.prog W b0 sp held m4 4 [c6] = y4[0]? := a4 0 (by decide)
    rw [List.getElem?_eq_getElem (show 0 < y4.length by omega)] at g4
    have g5 : DataW.trod enc Tryd.prog W b0 sp held m4 4 [c7] = y4[1]? := a4 1 (by decide)
    rw [List.getElem?_eq_getElem (show 1 < y4.length by omega)] at g5
    have g6 : DataW.trod enc Tryd.prog W b0 sp held m4 4 [c8] = y4[2]? := a4 2 (by decide)
    rw [List.getElem?_eq_getElem (show 2 < y4.length by omega)] at g6
    have g7 : DataW.trod enc Tryd.prog W b0 sp held m4 4 [c9] = y4[3]? := a4 3 (by decide)
    rw [List.getElem?_eq_getElem (show 3 < y4.length by omega)] at g7
    obtain ⟨c, qg0, _⟩ := DataW.trod_int Tryd.underlying3 g0
    obtain ⟨r, qg1, _⟩ := DataW.trod_int Tryd.underlying3 g1
    obtain ⟨c', qg2, _⟩ := DataW.trod_int Tryd.underlying3 g2
    obtain ⟨r', qg3, _⟩ := DataW.trod_int Tryd.underlying3 g3
    obtain ⟨f, qg4, _⟩ := DataW.trod_bool Tryd.underlying4 g4
    obtain ⟨g, qg5, _⟩ := DataW.trod_bool Tryd.underlying4 g5
    obtain ⟨f', qg6, _⟩ := DataW.trod_bool Tryd.underlying4 g6
    obtain ⟨g', qg7, _⟩ := DataW.trod_bool Tryd.underlying4 g7
    simp only [List.cons.injEq, and_true] at qg0 qg1 qg2 qg3 qg4 qg5 qg6 qg7
    have e0' : c0 = .string b := by injection e0
    have e1' : c1 = .string s := by injection e1
    have e5' : c10 = .bool wd := by injection e5
    subst qg0 qg1 qg2 qg3 qg4 qg5 qg6 qg7 e0' e1' e5'
    exact ⟨b, s, c, r, c', r', f, g, f', g', wd, rfl, z0, z1⟩

/-- The table of the powers of ten, off the row's list. -/
theorem tab_of {W : World} (h : laidMetH Tryd.prog Rows.addrGoodRow.laid W) : Tab W := by
  rw [MakeChecks.laidMetH_plain _ _ _ (by kernel_rfl)] at h
  have h1 := laidMet.tail (laidMet.tail h)
  exact Lib.tabIs_of_head (P := Tryd.prog) (W := W) (name := "internal/strconv.uint64pow10") (k := .u64) (zs := Lib.pow10Tab) (g := 1) (by kernel_rfl) (by kernel_rfl) Tryd.underlying119 Tryd.underlying103 (by kernel_rfl) (by kernel_rfl) h1
end Go.Proofs.YtpljbpndooilgaaDoor
