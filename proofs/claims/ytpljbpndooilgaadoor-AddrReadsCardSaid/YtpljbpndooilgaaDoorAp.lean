/- What the document fixes of package addr: the law's own examples. -/
import Derived.Test.YtpljbpndooilgaaDoorAo
import Derived.Test.YtpljbpndooilgaaDoorAg
namespace Go.Proofs.YtpljbpndooilgaaDoor
set_option linter.unusedVariables false
set_option linter.unusedSimpArgs false
open Go.RowKit Go.Sort
open Go.ChangeMaps (setBlock)

theorem Area_Size (a b c d : Int) (w : World) : Calls Tryd.prog 30 #[areaV a b c d] w (RetPost w (.int .i64 (areaN a b c d))) := by
  have HG := fun w => Area_Good a b c d w
  cases hg : areaOk a b c d with
  | false =>
    rw [hg] at HG
    have HE : Hid (areaN a b c d = 0) := by show areaN a b c d = 0; unfold areaN; rw [hg]; rfl
    have HG' := Lib.hid HG; clear HG hg
    go_enter Tryd.func30, Tryd.ntmps30
    go_wp2_with (go_at_call 22; refine (HG'.out _).mono ?_; rintro e w1 ⟨rfl, hb1⟩)
    ((try simp only [Exit.inBlock, Exit.then]); first | (refine bodyPost_ret (results_tmp rfl _ _ _) rfl ?_) | (refine bodyPost_ret (results_none rfl _ _ _) rfl ?_) | go_ret2 | go_ret3 | (refine bodyPost_ret (by simp [results, Tryd.results30, go_sem]; try rfl) rfl ?_))
    exact ⟨ret_int HE.out.symm, by (repeat (first | exact Below.refl _ _ | exact below_box _ _ | refine Below.stepBox ?_ _ | refine Below.stepDrew ?_ | refine Below.stepDrewN ?_ _ | refine Below.step (by assumption) ?_))⟩
  | true =>
    rw [hg] at HG
    have HE : Hid (areaN a b c d = cellsN a b c d) := by show areaN a b c d = _; unfold areaN; rw [hg]; rfl
    have HG' := Lib.hid HG; clear HG
    unfold areaOk at hg
    simp only [Bool.and_eq_true, decide_eq_true_eq] at hg
    obtain ⟨⟨⟨⟨g1, g2⟩, g3⟩, g4⟩, g5⟩ := hg
    have HC := Lib.hid (fun w => Area_cells a b c d w g1 g2 g3 g4)
    clear g1 g2
    go_enter Tryd.func30, Tryd.ntmps30
    go_wp2_with fail
    refine (HG'.out _).mono ?_; rintro e w1 ⟨rfl, hb1⟩
    have B := (Box.new w [.int .i64 a, .int .i64 b, .int .i64 c, .int .i64 d] 48).below hb1
    have k0 := B.at 0 rfl; have kf0 := B.free 0 rfl; have k1 := B.at 1 rfl; have kf1 := B.free 1 rfl; have k2 := B.at 2 rfl; have kf2 := B.free 2 rfl; have k3 := B.at 3 rfl; have kf3 := B.free 3 rfl
    go_wp2_with fail
    refine (HC.out _).mono ?_; rintro e w2 ⟨rfl, hb2⟩
    go_wp2_with fail
    ((try simp only [Exit.inBlock, Exit.then]); first | (refine bodyPost_ret (results_tmp rfl _ _ _) rfl ?_) | (refine bodyPost_ret (results_none rfl _ _ _) rfl ?_) | go_ret2 | go_ret3 | (refine bodyPost_ret (by simp [results, Tryd.results30, go_sem]; try rfl) rfl ?_))
    exact ⟨ret_int HE.out.symm, by (repeat (first | exact Below.refl _ _ | exact below_box _ _ | refine Below.stepBox ?_ _ | refine Below.stepDrew ?_ | refine Below.stepDrewN ?_ _ | refine Below.step (by assumption) ?_))⟩

theorem finish4b {w w1 : World} (b : Nat) (hle : w.heap.size ≤ b) (hb : Below w.heap.size w w1) (v0 v1 v2 v3 : Value) {vs : List Value} (c : Box w1 b vs) (hl : vs.length = 4) :
    ∃ W, (((w1.setCell ⟨b, 0, none⟩ v0).setCell ⟨b, 1, none⟩ v1).setCell ⟨b, 2, none⟩ v2).setCell ⟨b, 3, none⟩ v3 = W ∧
    W.cell? ⟨b, 0, none⟩ = some v0 ∧ W.cell? ⟨b, 1, none⟩ = some v1 ∧ W.cell? ⟨b, 2, none⟩ = some v2 ∧ W.cell? ⟨b, 3, none⟩ = some v3 ∧ Below w.heap.size w W := by
  have k := World.cell?_setCells_in b [v0, v1, v2, v3] 0 w1 (fun j hj => by
    have hv := c.at j (List.getElem?_eq_getElem (show j < vs.length by rw [hl]; exact hj))
    rw [show 0 + j = j by omega, hv]; rfl)
  exact ⟨_, rfl, k 0 (by simp), k 1 (by simp), k 2 (by simp), k 3 (by simp), (((hb.setCell hle _).setCell hle _).setCell hle _).setCell hle _⟩

theorem Full_Area (b s : ByteArray) (c r : Int) (f g : Bool) (c' r' : Int) (f' g' : Bool) (w : World) (h1 : s.size ≤ 140737488351232) (h2 : b.size ≤ 140737488351232) (hok : fullOk b s c r c' r' f' g' true = true) :
    Calls Tryd.prog 36 #[fullV b s c r f g c' r' f' g' true] w (RetPost w (areaV c r c' r')) := by
  have HG := fun w => Full_Good b s c r f g c' r' f' g' true w h1 h2
  rw [hok] at HG
  have HG' := Lib.hid HG
  have HA : Hid (∀ w, Calls Tryd.prog 37 #[fullV b s c r f g c' r' f' g' true] w (RetPost w (areaV c r c' r'))) := fun w => Full_area b s c r f g c' r' f' g' true w
  clear HG hok
  have BP := (Box.new w [.string b, .string s, .int .i64 c, .int .i64 r, .bool f, .bool g, .int .i64 c', .int .i64 r', .bool f', .bool g', .bool true] 31).alloc (.cells #[.int .i64 0, .int .i64 0, .int .i64 0, .int .i64 0] 48)
  have BR := Box.new (w.alloc (.cells #[.string b, .string s, .int .i64 c, .int .i64 r, .bool f, .bool g, .int .i64 c', .int .i64 r', .bool f', .bool g', .bool true] 31)) [.int .i64 0, .int .i64 0, .int .i64 0, .int .i64 0] 48
  have esz : (w.alloc (.cells #[.string b, .string s, .int .i64 c, .int .i64 r, .bool f, .bool g, .int .i64 c', .int .i64 r', .bool f', .bool g', .bool true] 31)).heap.size = w.heap.size + 1 := by simp
  have hc0 : Below w.heap.size w ((w.alloc (.cells #[.string b, .string s, .int .i64 c, .int .i64 r, .bool f, .bool g, .int .i64 c', .int .i64 r', .bool f', .bool g', .bool true] 31)).alloc (.cells #[.int .i64 0, .int .i64 0, .int .i64 0, .int .i64 0] 48)) := Below.stepBox (below_box _ _) _
  rw [esz] at BR
  clear esz
  go_enter Tryd.func36, Tryd.ntmps36
  go_wp2_with fail
  refine (HG'.out _).mono ?_; rintro e w1 ⟨rfl, hb1⟩
  have BP1 := BP.below hb1; have BR1 := BR.below hb1
  have hc1 := Below.step hb1 hc0
  clear BP BR hb1 hc0
  have k0 := BP1.at 0 rfl; have kf0 := BP1.free 0 rfl; have k1 := BP1.at 1 rfl; have kf1 := BP1.free 1 rfl; have k2 := BP1.at 2 rfl; have kf2 := BP1.free 2 rfl; have k3 := BP1.at 3 rfl; have kf3 := BP1.free 3 rfl; have k4 := BP1.at 4 rfl; have kf4 := BP1.free 4 rfl; have k5 := BP1.at 5 rfl; have kf5 := BP1.free 5 rfl; have k6 := BP1.at 6 rfl; have kf6 := BP1.free 6 rfl; have k7 := BP1.at 7 rfl; have kf7 := BP1.free 7 rfl; have k8 := BP1.at 8 rfl; have kf8 := BP1.free 8 rfl; have k9 := BP1.at 9 rfl; have kf9 := BP1.free 9 rfl; have k10 := BP1.at 10 rfl; have kf10 := BP1.free 10 rfl
  go_wp2_with fail
  refine (HA.out _).mono ?_; rintro e w2 ⟨rfl, hb2⟩
  have BR2 := BR1.below hb2
  have hc2 := Below.step hb2 hc1
  have j0 := BR2.at 0 rfl; have jf0 := BR2.free 0 rfl; have j1 := BR2.at 1 rfl; have jf1 := BR2.free 1 rfl; have j2 := BR2.at 2 rfl; have jf2 := BR2.free 2 rfl; have j3 := BR2.at 3 rfl; have jf3 := BR2.free 3 rfl
  go_wp2_with fail
  obtain ⟨W4, hW4, c0, c1, c2, c3, hB⟩ := finish4b (w.heap.size + 1) (by omega) hc2 (.int .i64 c) (.int .i64 r) (.int .i64 c') (.int .i64 r') BR2 rfl
  rw [hW4]
  refine bodyPost_ret (v := areaV c r c' r') (by simp [results, Tryd.results36, go_sem, c0, c1, c2, c3]) rfl ?_
  exact ⟨rfl, hB⟩

def txtA : ByteArray := ⟨#[91, 66, 49, 93, 83, 33, 36, 99, 36, 57, 58, 65, 49]⟩
def txtB : ByteArray := ⟨#[65, 66, 49]⟩
def txtC : ByteArray := ⟨#[91, 66, 49, 93, 83, 33, 65, 49, 58, 36, 67, 36, 57]⟩
theorem pre_txtB : refP txtB = some (27, 0, false, false) := by decide +kernel
theorem whereP_A : whereP txtA = some (⟨#[66, 49]⟩, ⟨#[83]⟩, ⟨#[36, 99, 36, 57, 58, 65, 49]⟩) := by decide +kernel
theorem refP_A1 : refP (cutA ⟨#[36, 99, 36, 57, 58, 65, 49]⟩ 58) = some (2, 8, true, true) := by decide +kernel
theorem refP_A2 : refP (cutB ⟨#[36, 99, 36, 57, 58, 65, 49]⟩ 58) = some (0, 0, false, false) := by decide +kernel
theorem itoa_1 : itoaB 1 = ⟨#[49]⟩ := by rw [show (1 : Int) = ((1 : Nat) : Int) from rfl, itoaB_nat, dec_low 1 (by decide)]; rfl
theorem itoa_9 : itoaB 9 = ⟨#[57]⟩ := by rw [show (9 : Int) = ((9 : Nat) : Int) from rfl, itoaB_nat, dec_low 9 (by decide)]; rfl
theorem refB_27 : refB 27 0 false false = txtB := by
  have e : refB 27 0 false false = dollar false ++ colB 27 ++ dollar false ++ itoaB 1 := by unfold refB; rfl
  rw [e, itoa_1]; decide +kernel
theorem fullB_A : fullB ⟨#[66, 49]⟩ ⟨#[83]⟩ 0 0 false false 2 8 true true true = txtC := by
  have e1 : refB 0 0 false false = dollar false ++ colB 0 ++ dollar false ++ itoaB 1 := by unfold refB; rfl
  have e2 : refB 2 8 true true = dollar true ++ colB 2 ++ dollar true ++ itoaB 9 := by unfold refB; rfl
  have e3 : fullOk ⟨#[66, 49]⟩ ⟨#[83]⟩ 0 0 2 8 true true true = true := by decide +kernel
  unfold fullB
  rw [e3, e1, e2, itoa_1, itoa_9]; decide +kernel

theorem wakes_any (w : World) (ht : Tab w) : Calls Tryd.prog 11 #[] w (RetPost w (.bool true)) := by
  have HP : Hid (∀ w, Calls Tryd.prog 25 #[.string txtA] w (RetPost w (.tuple #[fullV ⟨#[66, 49]⟩ ⟨#[83]⟩ 0 0 false false 2 8 true true true, .int .i64 0]))) := fun w =>
    Parse_wide txtA w (by decide) _ _ _ whereP_A (by decide +kernel) (by decide) 2 8 true true 0 0 false false refP_A1 refP_A2 (by decide) (by decide) 0 0 false false 2 8 true true (by unfold cornersV; simp) (by decide)
  have HR : Hid (∀ w, Calls Tryd.prog 23 #[.string txtB] w (RetPost w (.tuple #[refV 27 0 false false, .int .i64 0]))) := fun w => by
    have := ParseRef_any txtB w (by decide)
    rw [pre_txtB] at this; exact this
  have HT : Hid (∀ w, Tab w → Calls Tryd.prog 14 #[fullV ⟨#[66, 49]⟩ ⟨#[83]⟩ 0 0 false false 2 8 true true true] w (RetPost w (.string txtC))) := fun w ht => by
    have := Full_Text ⟨#[66, 49]⟩ ⟨#[83]⟩ 0 0 false false 2 8 true true true w ht (by decide) (by decide)
    rw [fullB_A] at this; exact this
  have HC : Hid (∀ w, Tab w → Calls Tryd.prog 17 #[cellV 27 0] w (RetPost w (.string txtB))) := fun w ht => by
    have := Cell_Text 27 0 w ht
    rw [refB_27] at this; exact this
  have HA : Hid (∀ w, Calls Tryd.prog 36 #[fullV ⟨#[66, 49]⟩ ⟨#[83]⟩ 0 0 false false 2 8 true true true] w (RetPost w (areaV 0 0 2 8))) := fun w =>
    Full_Area ⟨#[66, 49]⟩ ⟨#[83]⟩ 0 0 false false 2 8 true true w (by decide) (by decide) (by decide +kernel)
  have HS : Hid (∀ w, Calls Tryd.prog 30 #[areaV 0 0 2 8] w (RetPost w (.int .i64 27))) := fun w => by
    have := Area_Size 0 0 2 8 w
    rw [show areaN 0 0 2 8 = 27 by decide] at this; exact this
  go_enter Tryd.func11, Tryd.ntmps11
  go_wp2_with fail
  refine (HP.out _).mono ?_; rintro e w1 ⟨rfl, hb1⟩
  go_wp2_with fail
  refine (HR.out _).mono ?_; rintro e w2 ⟨rfl, hb2⟩
  have BF2 := (Box.new w1 [.string ⟨#[66, 49]⟩, .string ⟨#[83]⟩, .int .i64 0, .int .i64 0, .bool false, .bool false, .int .i64 2, .int .i64 8, .bool true, .bool true, .bool true] 31).below hb2
  have BR2 := Box.new w2 [.int .i64 27, .int .i64 0, .bool false, .bool false] 29
  have hc2 := Below.stepBox (Below.step hb2 (Below.stepBox hb1 _)) (.cells #[.int .i64 27, .int .i64 0, .bool false, .bool false] 29)
  have BF3 := BF2.alloc (.cells #[.int .i64 27, .int .i64 0, .bool false, .bool false] 29)
  have k0 := fun o => (BF2.alloc o).at 0 rfl; have kf0 := fun o => (BF2.alloc o).free 0 rfl; have k1 := fun o => (BF2.alloc o).at 1 rfl; have kf1 := fun o => (BF2.alloc o).free 1 rfl; have k2 := fun o => (BF2.alloc o).at 2 rfl; have kf2 := fun o => (BF2.alloc o).free 2 rfl; have k3 := fun o => (BF2.alloc o).at 3 rfl; have kf3 := fun o => (BF2.alloc o).free 3 rfl; have k4 := fun o => (BF2.alloc o).at 4 rfl; have kf4 := fun o => (BF2.alloc o).free 4 rfl; have k5 := fun o => (BF2.alloc o).at 5 rfl; have kf5 := fun o => (BF2.alloc o).free 5 rfl; have k6 := fun o => (BF2.alloc o).at 6 rfl; have kf6 := fun o => (BF2.alloc o).free 6 rfl; have k7 := fun o => (BF2.alloc o).at 7 rfl; have kf7 := fun o => (BF2.alloc o).free 7 rfl; have k8 := fun o => (BF2.alloc o).at 8 rfl; have kf8 := fun o => (BF2.alloc o).free 8 rfl; have k9 := fun o => (BF2.alloc o).at 9 rfl; have kf9 := fun o => (BF2.alloc o).free 9 rfl; have k10 := fun o => (BF2.alloc o).at 10 rfl; have kf10 := fun o => (BF2.alloc o).free 10 rfl
  go_wp2_with fail
  refine (HT.out _ (ht.below hc2)).mono ?_; rintro e w3 ⟨rfl, hb3⟩
  clear k0 kf0 k1 kf1 k2 kf2 k3 kf3 k4 kf4 k5 kf5 k6 kf6 k7 kf7 k8 kf8 k9 kf9 k10 kf10
  have BF4 := BF3.below hb3; have BR4 := BR2.below hb3
  have hc3 := Below.step hb3 hc2
  have e1 : (txtC.toList == [91, 66, 49, 93, 83, 33, 65, 49, 58, 36, 67, 36, 57]) = true := by rw [Lib.toList_data]; decide
  have e2 : (txtB.toList == [65, 66, 49]) = true := by rw [Lib.toList_data]; decide
  have k0 := BF4.at 0 rfl; have kf0 := BF4.free 0 rfl; have k1 := BF4.at 1 rfl; have kf1 := BF4.free 1 rfl; have k2 := BF4.at 2 rfl; have kf2 := BF4.free 2 rfl; have k3 := BF4.at 3 rfl; have kf3 := BF4.free 3 rfl; have k4 := BF4.at 4 rfl; have kf4 := BF4.free 4 rfl; have k5 := BF4.at 5 rfl; have kf5 := BF4.free 5 rfl; have k6 := BF4.at 6 rfl; have kf6 := BF4.free 6 rfl; have k7 := BF4.at 7 rfl; have kf7 := BF4.free 7 rfl; have k8 := BF4.at 8 rfl; have kf8 := BF4.free 8 rfl; have k9 := BF4.at 9 rfl; have kf9 := BF4.free 9 rfl; have k10 := BF4.at 10 rfl; have kf10 := BF4.free 10 rfl
  have j0 := BR4.at 0 rfl; have jf0 := BR4.free 0 rfl; have j1 := BR4.at 1 rfl; have jf1 := BR4.free 1 rfl; have j2 := BR4.at 2 rfl; have jf2 := BR4.free 2 rfl; have j3 := BR4.at 3 rfl; have jf3 := BR4.free 3 rfl
  go_wp2_with fail
  refine (HC.out _ (ht.below hc3)).mono ?_; rintro e w4 ⟨rfl, hb4⟩
  clear k0 kf0 k1 kf1 k2 kf2 k3 kf3 k4 kf4 k5 kf5 k6 kf6 k7 kf7 k8 kf8 k9 kf9 k10 kf10 j0 jf0 j1 jf1 j2 jf2 j3 jf3
  have BF5 := BF4.below hb4; have BR5 := BR4.below hb4
  have hc4 := Below.step hb4 hc3
  have k0 := BF5.at 0 rfl; have kf0 := BF5.free 0 rfl; have k1 := BF5.at 1 rfl; have kf1 := BF5.free 1 rfl; have k2 := BF5.at 2 rfl; have kf2 := BF5.free 2 rfl; have k3 := BF5.at 3 rfl; have kf3 := BF5.free 3 rfl; have k4 := BF5.at 4 rfl; have kf4 := BF5.free 4 rfl; have k5 := BF5.at 5 rfl; have kf5 := BF5.free 5 rfl; have k6 := BF5.at 6 rfl; have kf6 := BF5.free 6 rfl; have k7 := BF5.at 7 rfl; have kf7 := BF5.free 7 rfl; have k8 := BF5.at 8 rfl; have kf8 := BF5.free 8 rfl; have k9 := BF5.at 9 rfl; have kf9 := BF5.free 9 rfl; have k10 := BF5.at 10 rfl; have kf10 := BF5.free 10 rfl
  have j0 := BR5.at 0 rfl; have jf0 := BR5.free 0 rfl; have j1 := BR5.at 1 rfl; have jf1 := BR5.free 1 rfl; have j2 := BR5.at 2 rfl; have jf2 := BR5.free 2 rfl; have j3 := BR5.at 3 rfl; have jf3 := BR5.free 3 rfl
  go_wp2_with fail
  refine (HA.out _).mono ?_; rintro e w5 ⟨rfl, hb5⟩
  have hc5 := Below.step hb5 hc4
  go_wp2_with fail
  refine (HS.out _).mono ?_; rintro e w6 ⟨rfl, hb6⟩
  have hc6 := Below.step hb6 hc5
  go_wp2_with fail
  ((try simp only [Exit.inBlock, Exit.then]); first | (refine bodyPost_ret (results_tmp rfl _ _ _) rfl ?_) | (refine bodyPost_ret (results_none rfl _ _ _) rfl ?_) | go_ret2 | go_ret3 | (refine bodyPost_ret (by simp [results, Tryd.results11, go_sem]; try rfl) rfl ?_))
  exact ⟨by first | rfl | simp, hc6⟩
end Go.Proofs.YtpljbpndooilgaaDoor
