/- Areas: the least one with two cells, what two have in common, whether one has a cell. -/
import Derived.Test.YtpljbpndooilgaaDoorAp
namespace Go.Proofs.YtpljbpndooilgaaDoor
set_option linter.unusedVariables false
set_option linter.unusedSimpArgs false
open Go.RowKit Go.Sort
open Go.ChangeMaps (setBlock)

theorem Between_any (a b c d : Int) (w : World) : Calls Tryd.prog 32 #[cellV a b, cellV c d] w (RetPost w (areaV (min a c) (min b d) (max a c) (max b d))) := by
  go_enter Tryd.func32, Tryd.ntmps32
  go_wp2
  ((try simp only [Exit.inBlock, Exit.then]); first | (refine bodyPost_ret (results_tmp rfl _ _ _) rfl ?_) | (refine bodyPost_ret (results_none rfl _ _ _) rfl ?_) | go_ret2 | go_ret3 | (refine bodyPost_ret (by simp [results, Tryd.results32, go_sem]; try rfl) rfl ?_))
  exact ⟨by first | rfl | simp, by (repeat (first | exact Below.refl _ _ | exact below_box _ _ | refine Below.stepBox ?_ _ | refine Below.stepDrew ?_ | refine Below.stepDrewN ?_ _ | refine Below.step (by assumption) ?_))⟩

def hasOk (a b c d x y : Int) : Bool := areaOk a b c d && decide (a ≤ x ∧ x ≤ c ∧ b ≤ y ∧ y ≤ d)
set_option maxRecDepth 100000 in
theorem Has_any (a b c d x y : Int) (w : World) : Calls Tryd.prog 31 #[areaV a b c d, cellV x y] w (RetPost w (.bool (hasOk a b c d x y))) := by
  have HG := fun w => Area_Good a b c d w
  have BA := (Box.new w [.int .i64 a, .int .i64 b, .int .i64 c, .int .i64 d] 48).alloc (.cells #[.int .i64 x, .int .i64 y] 27)
  have BC := Box.new (w.alloc (.cells #[.int .i64 a, .int .i64 b, .int .i64 c, .int .i64 d] 48)) [.int .i64 x, .int .i64 y] 27
  have esz : (w.alloc (.cells #[.int .i64 a, .int .i64 b, .int .i64 c, .int .i64 d] 48)).heap.size = w.heap.size + 1 := by simp
  rw [esz] at BC
  clear esz
  have hb0 : Below w.heap.size w ((w.alloc (.cells #[.int .i64 a, .int .i64 b, .int .i64 c, .int .i64 d] 48)).alloc (.cells #[.int .i64 x, .int .i64 y] 27)) := Below.stepBox (below_box _ _) _
  cases hg : areaOk a b c d with
  | false =>
    rw [hg] at HG
    have HE : Hid (hasOk a b c d x y = false) := by show hasOk a b c d x y = false; unfold hasOk; rw [hg]; rfl
    have HG' := Lib.hid HG; clear HG hg
    go_enter Tryd.func31, Tryd.ntmps31
    go_wp2_with fail
    refine (HG'.out _).mono ?_; rintro e w1 ⟨rfl, hb1⟩
    go_wp2_with fail
    ((try simp only [Exit.inBlock, Exit.then]); first | (refine bodyPost_ret (results_tmp rfl _ _ _) rfl ?_) | (refine bodyPost_ret (results_none rfl _ _ _) rfl ?_) | go_ret2 | go_ret3 | (refine bodyPost_ret (by simp [results, Tryd.results31, go_sem]; try rfl) rfl ?_))
    exact ⟨ret_bool HE.out.symm, Below.step hb1 hb0⟩
  | true =>
    rw [hg] at HG
    have HE : Hid (hasOk a b c d x y = decide (a ≤ x ∧ x ≤ c ∧ b ≤ y ∧ y ≤ d)) := by show hasOk a b c d x y = _; unfold hasOk; rw [hg]; rfl
    have HG' := Lib.hid HG; clear HG hg
    have hcase : x < a ∨ (a ≤ x ∧ c < x) ∨ (a ≤ x ∧ x ≤ c ∧ y < b) ∨ (a ≤ x ∧ x ≤ c ∧ b ≤ y) := by omega
    rcases hcase with h1 | ⟨h1, h2⟩ | ⟨h1, h2, h3⟩ | ⟨h1, h2, h3⟩
    all_goals
      go_enter Tryd.func31, Tryd.ntmps31
      go_wp2_with fail
      refine (HG'.out _).mono ?_; rintro e w1 ⟨rfl, hb1⟩
      have BA1 := BA.below hb1; have BC1 := BC.below hb1
      have k0 := BA1.at 0 rfl; have kf0 := BA1.free 0 rfl; have k1 := BA1.at 1 rfl; have kf1 := BA1.free 1 rfl; have k2 := BA1.at 2 rfl; have kf2 := BA1.free 2 rfl; have k3 := BA1.at 3 rfl; have kf3 := BA1.free 3 rfl
      have j0 := BC1.at 0 rfl; have jf0 := BC1.free 0 rfl; have j1 := BC1.at 1 rfl; have jf1 := BC1.free 1 rfl
      go_wp2_with fail
      all_goals
        ((try simp only [Exit.inBlock, Exit.then]); first | (refine bodyPost_ret (results_tmp rfl _ _ _) rfl ?_) | (refine bodyPost_ret (results_none rfl _ _ _) rfl ?_) | go_ret2 | go_ret3 | (refine bodyPost_ret (by simp [results, Tryd.results31, go_sem]; try rfl) rfl ?_))
        refine ⟨ret_bool ?_, Below.step hb1 hb0⟩
        rw [HE.out, Bool.eq_iff_iff]; simp; omega

def meetV (a b c d a' b' c' d' : Int) : Value :=
  if areaOk a b c d && areaOk a' b' c' d' && areaOk (max a a') (max b b') (min c c') (min d d') then .tuple #[areaV (max a a') (max b b') (min c c') (min d d'), .bool true] else .tuple #[areaV 0 0 0 0, .bool false]

set_option maxRecDepth 100000 in
set_option maxHeartbeats 1000000 in
theorem Meet_any (a b c d a' b' c' d' : Int) (w : World) : Calls Tryd.prog 33 #[areaV a b c d, areaV a' b' c' d'] w (RetPost w (meetV a b c d a' b' c' d')) := by
  have HA := fun w => Area_Good a b c d w
  have HB := fun w => Area_Good a' b' c' d' w
  have HM := fun w => Area_Good (max a a') (max b b') (min c c') (min d d') w
  have BA0 := ((Box.new w [.int .i64 a, .int .i64 b, .int .i64 c, .int .i64 d] 48).alloc (.cells #[.int .i64 a', .int .i64 b', .int .i64 c', .int .i64 d'] 48)).alloc (.cells #[.int .i64 0, .int .i64 0, .int .i64 0, .int .i64 0] 48)
  have BB0 := (Box.new (w.alloc (.cells #[.int .i64 a, .int .i64 b, .int .i64 c, .int .i64 d] 48)) [.int .i64 a', .int .i64 b', .int .i64 c', .int .i64 d'] 48).alloc (.cells #[.int .i64 0, .int .i64 0, .int .i64 0, .int .i64 0] 48)
  have BR0 := Box.new ((w.alloc (.cells #[.int .i64 a, .int .i64 b, .int .i64 c, .int .i64 d] 48)).alloc (.cells #[.int .i64 a', .int .i64 b', .int .i64 c', .int .i64 d'] 48)) [.int .i64 0, .int .i64 0, .int .i64 0, .int .i64 0] 48
  have e1 : (w.alloc (.cells #[.int .i64 a, .int .i64 b, .int .i64 c, .int .i64 d] 48)).heap.size = w.heap.size + 1 := by simp
  have e2 : ((w.alloc (.cells #[.int .i64 a, .int .i64 b, .int .i64 c, .int .i64 d] 48)).alloc (.cells #[.int .i64 a', .int .i64 b', .int .i64 c', .int .i64 d'] 48)).heap.size = w.heap.size + 1 + 1 := by simp
  rw [e1] at BB0; rw [e2] at BR0
  clear e1 e2
  have hb0 : Below w.heap.size w (((w.alloc (.cells #[.int .i64 a, .int .i64 b, .int .i64 c, .int .i64 d] 48)).alloc (.cells #[.int .i64 a', .int .i64 b', .int .i64 c', .int .i64 d'] 48)).alloc (.cells #[.int .i64 0, .int .i64 0, .int .i64 0, .int .i64 0] 48)) := Below.stepBox (Below.stepBox (below_box _ _) _) _
  cases ha : areaOk a b c d with
  | false =>
    rw [ha] at HA
    have HE : Hid (meetV a b c d a' b' c' d' = .tuple #[areaV 0 0 0 0, .bool false]) := by show meetV a b c d a' b' c' d' = _; unfold meetV; rw [ha]; rfl
    have HA' := Lib.hid HA; clear HA HB HM ha
    go_enter Tryd.func33, Tryd.ntmps33
    go_wp2_with fail
    refine (HA'.out _).mono ?_; rintro e w1 ⟨rfl, hb1⟩
    have BA1 := BA0.below hb1; have BB1 := BB0.below hb1; have BR1 := BR0.below hb1
    have hc1 := Below.step hb1 hb0
    have r0 := BR1.at 0 rfl; have rf0 := BR1.free 0 rfl; have r1 := BR1.at 1 rfl; have rf1 := BR1.free 1 rfl; have r2 := BR1.at 2 rfl; have rf2 := BR1.free 2 rfl; have r3 := BR1.at 3 rfl; have rf3 := BR1.free 3 rfl
    go_wp2_with fail
    obtain ⟨W4, hW4, c0, c1, c2, c3, hB⟩ := finish4b (w.heap.size + 1 + 1) (by omega) hc1 (.int .i64 0) (.int .i64 0) (.int .i64 0) (.int .i64 0) BR1 rfl
    rw [hW4]
    refine bodyPost_ret (v := .tuple #[areaV 0 0 0 0, .bool false]) (by simp [results, Tryd.results33, go_sem, c0, c1, c2, c3]) rfl ?_
    exact ⟨by rw [HE.out], hB⟩
  | true =>
    rw [ha] at HA
    have HA' := Lib.hid HA; clear HA
    cases hb : areaOk a' b' c' d' with
    | false =>
      rw [hb] at HB
      have HE : Hid (meetV a b c d a' b' c' d' = .tuple #[areaV 0 0 0 0, .bool false]) := by show meetV a b c d a' b' c' d' = _; unfold meetV; rw [ha, hb]; rfl
      have HB' := Lib.hid HB; clear HB HM ha hb
      go_enter Tryd.func33, Tryd.ntmps33
      go_wp2_with fail
      refine (HA'.out _).mono ?_; rintro e w1 ⟨rfl, hb1⟩
      have BA1 := BA0.below hb1; have BB1 := BB0.below hb1; have BR1 := BR0.below hb1
      have hc1 := Below.step hb1 hb0
      have k0 := BB1.at 0 rfl; have kf0 := BB1.free 0 rfl; have k1 := BB1.at 1 rfl; have kf1 := BB1.free 1 rfl; have k2 := BB1.at 2 rfl; have kf2 := BB1.free 2 rfl; have k3 := BB1.at 3 rfl; have kf3 := BB1.free 3 rfl
      go_wp2_with fail
      refine (HB'.out _).mono ?_; rintro e w2 ⟨rfl, hb2⟩
      have BR2 := BR1.below hb2
      have hc2 := Below.step hb2 hc1
      have r0 := BR2.at 0 rfl; have rf0 := BR2.free 0 rfl; have r1 := BR2.at 1 rfl; have rf1 := BR2.free 1 rfl; have r2 := BR2.at 2 rfl; have rf2 := BR2.free 2 rfl; have r3 := BR2.at 3 rfl; have rf3 := BR2.free 3 rfl
      go_wp2_with fail
      obtain ⟨W4, hW4, c0, c1, c2, c3, hB⟩ := finish4b (w.heap.size + 1 + 1) (by omega) hc2 (.int .i64 0) (.int .i64 0) (.int .i64 0) (.int .i64 0) BR2 rfl
      rw [hW4]
      refine bodyPost_ret (v := .tuple #[areaV 0 0 0 0, .bool false]) (by simp [results, Tryd.results33, go_sem, c0, c1, c2, c3]) rfl ?_
      exact ⟨by rw [HE.out], hB⟩
    | true =>
      rw [hb] at HB
      have HB' := Lib.hid HB; clear HB
      have HV : meetV a b c d a' b' c' d' = if areaOk (max a a') (max b b') (min c c') (min d d') then .tuple #[areaV (max a a') (max b b') (min c c') (min d d'), .bool true] else .tuple #[areaV 0 0 0 0, .bool false] := by unfold meetV; rw [ha, hb]; simp
      clear ha hb
      obtain ⟨X, hX⟩ : ∃ X, X = max a a' := ⟨_, rfl⟩
      obtain ⟨Y, hY⟩ : ∃ Y, Y = max b b' := ⟨_, rfl⟩
      obtain ⟨U, hU⟩ : ∃ U, U = min c c' := ⟨_, rfl⟩
      obtain ⟨V, hV⟩ : ∃ V, V = min d d' := ⟨_, rfl⟩
      rw [← hX, ← hY, ← hU, ← hV] at HM HV
      cases hm : areaOk X Y U V with
      | false =>
        rw [hm] at HM HV
        have HE := Lib.hid (HV.trans (if_neg (by decide)))
        have HM' := Lib.hid HM; clear HM HV hm
        go_enter Tryd.func33, Tryd.ntmps33
        go_wp2_with fail
        refine (HA'.out _).mono ?_; rintro e w1 ⟨rfl, hb1⟩
        have BA1 := BA0.below hb1; have BB1 := BB0.below hb1; have BR1 := BR0.below hb1
        have hc1 := Below.step hb1 hb0
        have k0 := BB1.at 0 rfl; have kf0 := BB1.free 0 rfl; have k1 := BB1.at 1 rfl; have kf1 := BB1.free 1 rfl; have k2 := BB1.at 2 rfl; have kf2 := BB1.free 2 rfl; have k3 := BB1.at 3 rfl; have kf3 := BB1.free 3 rfl
        go_wp2_with fail
        refine (HB'.out _).mono ?_; rintro e w2 ⟨rfl, hb2⟩
        have BA2 := BA1.below hb2; have BB2 := BB1.below hb2; have BR2 := BR1.below hb2
        have hc2 := Below.step hb2 hc1
        clear k0 kf0 k1 kf1 k2 kf2 k3 kf3
        have k0 := BA2.at 0 rfl; have kf0 := BA2.free 0 rfl; have k1 := BA2.at 1 rfl; have kf1 := BA2.free 1 rfl; have k2 := BA2.at 2 rfl; have kf2 := BA2.free 2 rfl; have k3 := BA2.at 3 rfl; have kf3 := BA2.free 3 rfl
        have j0 := BB2.at 0 rfl; have jf0 := BB2.free 0 rfl; have j1 := BB2.at 1 rfl; have jf1 := BB2.free 1 rfl; have j2 := BB2.at 2 rfl; have jf2 := BB2.free 2 rfl; have j3 := BB2.at 3 rfl; have jf3 := BB2.free 3 rfl
        go_wp2_with fail
        rw [← hX, ← hY, ← hU, ← hV]
        clear hX hY hU hV
        refine (HM'.out _).mono ?_; rintro e w3 ⟨rfl, hb3⟩
        have BR3 := (BR2.alloc (.cells #[.int .i64 X, .int .i64 Y, .int .i64 U, .int .i64 V] 48)).below hb3
        have hc3 := Below.step hb3 (Below.stepBox hc2 _)
        have r0 := BR3.at 0 rfl; have rf0 := BR3.free 0 rfl; have r1 := BR3.at 1 rfl; have rf1 := BR3.free 1 rfl; have r2 := BR3.at 2 rfl; have rf2 := BR3.free 2 rfl; have r3 := BR3.at 3 rfl; have rf3 := BR3.free 3 rfl
        go_wp2_with fail
        obtain ⟨W4, hW4, c0, c1, c2, c3, hB⟩ := finish4b (w.heap.size + 1 + 1) (by omega) hc3 (.int .i64 0) (.int .i64 0) (.int .i64 0) (.int .i64 0) BR3 rfl
        rw [hW4]
        refine bodyPost_ret (v := .tuple #[areaV 0 0 0 0, .bool false]) (by simp [results, Tryd.results33, go_sem, c0, c1, c2, c3]) rfl ?_
        exact ⟨by rw [HE.out], hB⟩
      | true =>
        rw [hm] at HM HV
        have HE := Lib.hid (HV.trans (if_pos rfl))
        have HM' := Lib.hid HM; clear HM HV hm
        go_enter Tryd.func33, Tryd.ntmps33
        go_wp2_with fail
        refine (HA'.out _).mono ?_; rintro e w1 ⟨rfl, hb1⟩
        have BA1 := BA0.below hb1; have BB1 := BB0.below hb1; have BR1 := BR0.below hb1
        have hc1 := Below.step hb1 hb0
        have k0 := BB1.at 0 rfl; have kf0 := BB1.free 0 rfl; have k1 := BB1.at 1 rfl; have kf1 := BB1.free 1 rfl; have k2 := BB1.at 2 rfl; have kf2 := BB1.free 2 rfl; have k3 := BB1.at 3 rfl; have kf3 := BB1.free 3 rfl
        go_wp2_with fail
        refine (HB'.out _).mono ?_; rintro e w2 ⟨rfl, hb2⟩
        have BA2 := BA1.below hb2; have BB2 := BB1.below hb2; have BR2 := BR1.below hb2
        have hc2 := Below.step hb2 hc1
        clear k0 kf0 k1 kf1 k2 kf2 k3 kf3
        have k0 := BA2.at 0 rfl; have kf0 := BA2.free 0 rfl; have k1 := BA2.at 1 rfl; have kf1 := BA2.free 1 rfl; have k2 := BA2.at 2 rfl; have kf2 := BA2.free 2 rfl; have k3 := BA2.at 3 rfl; have kf3 := BA2.free 3 rfl
        have j0 := BB2.at 0 rfl; have jf0 := BB2.free 0 rfl; have j1 := BB2.at 1 rfl; have jf1 := BB2.free 1 rfl; have j2 := BB2.at 2 rfl; have jf2 := BB2.free 2 rfl; have j3 := BB2.at 3 rfl; have jf3 := BB2.free 3 rfl
        go_wp2_with fail
        rw [← hX, ← hY, ← hU, ← hV]
        clear hX hY hU hV
        refine (HM'.out _).mono ?_; rintro e w3 ⟨rfl, hb3⟩
        have BR3 := (BR2.alloc (.cells #[.int .i64 X, .int .i64 Y, .int .i64 U, .int .i64 V] 48)).below hb3
        have BM3 := (Box.new w2 [.int .i64 X, .int .i64 Y, .int .i64 U, .int .i64 V] 48).below hb3
        have hc3 := Below.step hb3 (Below.stepBox hc2 _)
        have r0 := BR3.at 0 rfl; have rf0 := BR3.free 0 rfl; have r1 := BR3.at 1 rfl; have rf1 := BR3.free 1 rfl; have r2 := BR3.at 2 rfl; have rf2 := BR3.free 2 rfl; have r3 := BR3.at 3 rfl; have rf3 := BR3.free 3 rfl
        have m0 := BM3.at 0 rfl; have mf0 := BM3.free 0 rfl; have m1 := BM3.at 1 rfl; have mf1 := BM3.free 1 rfl; have m2 := BM3.at 2 rfl; have mf2 := BM3.free 2 rfl; have m3 := BM3.at 3 rfl; have mf3 := BM3.free 3 rfl
        go_wp2_with fail
        obtain ⟨W4, hW4, c0, c1, c2, c3, hB⟩ := finish4b (w.heap.size + 1 + 1) (by omega) hc3 (.int .i64 X) (.int .i64 Y) (.int .i64 U) (.int .i64 V) BR3 rfl
        rw [hW4]
        refine bodyPost_ret (v := .tuple #[areaV X Y U V, .bool true]) (by simp [results, Tryd.results33, go_sem, c0, c1, c2, c3]) rfl ?_
        exact ⟨by rw [HE.out], hB⟩
end Go.Proofs.YtpljbpndooilgaaDoor
