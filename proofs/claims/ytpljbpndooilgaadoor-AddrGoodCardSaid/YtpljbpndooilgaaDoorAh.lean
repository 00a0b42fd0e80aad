/- The document's full references: which are good, how they are written: as the program's. -/
import Derived.Test.YtpljbpndooilgaaDoorAg
namespace Go.Proofs.YtpljbpndooilgaaDoor
set_option linter.unusedVariables false
set_option linter.unusedSimpArgs false
open Go.RowKit Go.Sort
open Go.ChangeMaps (setBlock)

theorem areaOk_one (c r : Int) : areaOk c r c r = goodC c r := by
  unfold areaOk cellsN
  have e : (c - c + 1) * (r - r + 1) = 1 := by rw [Int.sub_self, Int.sub_self]; rfl
  rw [e]
  cases goodC c r <;> simp

set_option maxHeartbeats 4000000 in
set_option maxRecDepth 100000 in
theorem refGood_any (b s : ByteArray) (c r : Int) (f g : Bool) (c' r' : Int) (f' g' wd : Bool) (w : World) (h1 : s.size ≤ 140737488351232) (h2 : b.size ≤ 140737488351232) :
    Calls Tryd.prog 13 #[fullV b s c r f g c' r' f' g' wd] w (RetPost w (.bool (fullOk b s c r c' r' f' g' wd))) := by
  have HS := fun w => refName_any s w h1
  have HB := fun w => refName_any b w h2
  have HSS : nameOk s = false ∨ nameOk s = true := by cases nameOk s <;> simp
  have HBB : nameOk b = false ∨ nameOk b = true := by cases nameOk b <;> simp
  by_cases es : s.toList = []
  · by_cases eb : b.toList = []
    · rcases HSS with ns | ns <;> rcases HBB with nb | nb
      all_goals
        rw [ns] at HS; rw [nb] at HB; have HS' := Lib.hid HS; have HB' := Lib.hid HB; clear HS HB
        cases wd with
        | true =>
          have HE : Hid (fullOk b s c r c' r' f' g' true = areaOk c r c' r') := by show fullOk b s c r c' r' f' g' true = _; unfold fullOk; simp [es, eb]
          have HA := Lib.hid (fun w => refArea_any c r c' r' f g f' g' w)
          go_enter Tryd.func13, Tryd.ntmps13
          go_wp2_with fail
          refine (HS'.out _).mono ?_; rintro e w1 ⟨rfl, hb1⟩
          have k0 := box_at (v := .string b) hb1 0 rfl; have k1 := box_at (v := .string s) hb1 1 rfl; have k2 := box_at (v := .int .i64 c) hb1 2 rfl; have k3 := box_at (v := .int .i64 r) hb1 3 rfl; have k4 := box_at (v := .bool f) hb1 4 rfl; have k5 := box_at (v := .bool g) hb1 5 rfl; have k6 := box_at (v := .int .i64 c') hb1 6 rfl; have k7 := box_at (v := .int .i64 r') hb1 7 rfl; have k8 := box_at (v := .bool f') hb1 8 rfl; have k9 := box_at (v := .bool g') hb1 9 rfl; have k10 := box_at (v := .bool true) hb1 10 rfl
          go_wp2_with fail
          refine (HB'.out _).mono ?_; rintro e w2 ⟨rfl, hb2⟩
          have hc2 := hb1.trans (hb2.mono hb1.size)
          have q0 := box_at (v := .string b) hc2 0 rfl; have q1 := box_at (v := .string s) hc2 1 rfl; have q2 := box_at (v := .int .i64 c) hc2 2 rfl; have q3 := box_at (v := .int .i64 r) hc2 3 rfl; have q4 := box_at (v := .bool f) hc2 4 rfl; have q5 := box_at (v := .bool g) hc2 5 rfl; have q6 := box_at (v := .int .i64 c') hc2 6 rfl; have q7 := box_at (v := .int .i64 r') hc2 7 rfl; have q8 := box_at (v := .bool f') hc2 8 rfl; have q9 := box_at (v := .bool g') hc2 9 rfl; have q10 := box_at (v := .bool true) hc2 10 rfl
          go_wp2_with fail
          refine (HA.out _).mono ?_; rintro e w3 ⟨rfl, hb3⟩
          clear hc2
          go_wp2
          go_returns
          exact ⟨ret_bool HE.out.symm, by (repeat (first | exact Below.refl _ _ | exact below_box _ _ | refine Below.stepBox ?_ _ | refine Below.stepDrew ?_ | refine Below.stepDrewN ?_ _ | refine Below.step (by assumption) ?_))⟩
        | false =>
          by_cases ho : c' = 0 ∧ r' = 0 ∧ f' = false ∧ g' = false
          · obtain ⟨rfl, rfl, rfl, rfl⟩ := ho
            have HE : Hid (fullOk b s c r 0 0 false false false = goodC c r) := by show fullOk b s c r 0 0 false false false = _; unfold fullOk; rw [areaOk_one]; simp [es, eb]
            have HC := Lib.hid (fun w => ref_Cell c r w)
            go_enter Tryd.func13, Tryd.ntmps13
            go_wp2_with fail
            refine (HS'.out _).mono ?_; rintro e w1 ⟨rfl, hb1⟩
            have k0 := box_at (v := .string b) hb1 0 rfl; have k1 := box_at (v := .string s) hb1 1 rfl; have k2 := box_at (v := .int .i64 c) hb1 2 rfl; have k3 := box_at (v := .int .i64 r) hb1 3 rfl; have k4 := box_at (v := .bool f) hb1 4 rfl; have k5 := box_at (v := .bool g) hb1 5 rfl; have k6 := box_at (v := .int .i64 0) hb1 6 rfl; have k7 := box_at (v := .int .i64 0) hb1 7 rfl; have k8 := box_at (v := .bool false) hb1 8 rfl; have k9 := box_at (v := .bool false) hb1 9 rfl; have k10 := box_at (v := .bool false) hb1 10 rfl
            go_wp2_with fail
            refine (HB'.out _).mono ?_; rintro e w2 ⟨rfl, hb2⟩
            have hc2 := hb1.trans (hb2.mono hb1.size)
            have q0 := box_at (v := .string b) hc2 0 rfl; have q1 := box_at (v := .string s) hc2 1 rfl; have q2 := box_at (v := .int .i64 c) hc2 2 rfl; have q3 := box_at (v := .int .i64 r) hc2 3 rfl; have q4 := box_at (v := .bool f) hc2 4 rfl; have q5 := box_at (v := .bool g) hc2 5 rfl; have q6 := box_at (v := .int .i64 0) hc2 6 rfl; have q7 := box_at (v := .int .i64 0) hc2 7 rfl; have q8 := box_at (v := .bool false) hc2 8 rfl; have q9 := box_at (v := .bool false) hc2 9 rfl; have q10 := box_at (v := .bool false) hc2 10 rfl
            go_wp2_with fail
            refine (HC.out _).mono ?_; rintro e w3 ⟨rfl, rfl⟩
            clear hc2
            go_wp2
            go_returns
            exact ⟨ret_bool HE.out.symm, by (repeat (first | exact Below.refl _ _ | exact below_box _ _ | refine Below.stepBox ?_ _ | refine Below.stepDrew ?_ | refine Below.stepDrewN ?_ _ | refine Below.step (by assumption) ?_))⟩
          · have HE : Hid (fullOk b s c r c' r' f' g' false = false) := by
              show fullOk b s c r c' r' f' g' false = false
              unfold fullOk
              simp [es, eb]
              intro _ p q u; by_cases hg : g' = true
              · exact hg
              · exact absurd ⟨p, q, u, by simpa using hg⟩ ho
            have hn : c' ≠ 0 ∨ (c' = 0 ∧ r' ≠ 0) ∨ (c' = 0 ∧ r' = 0 ∧ f' = true) ∨ (c' = 0 ∧ r' = 0 ∧ f' = false ∧ g' = true) := by
              by_cases p : c' = 0
              · by_cases q : r' = 0
                · cases f' <;> cases g' <;> simp_all
                · exact Or.inr (Or.inl ⟨p, q⟩)
              · exact Or.inl p
            clear ho
            rcases hn with hn | ⟨hn, hn2⟩ | ⟨hn, hn2, hn3⟩ | ⟨hn, hn2, hn3, hn4⟩
            all_goals
              go_enter Tryd.func13, Tryd.ntmps13
              go_wp2_with fail
              refine (HS'.out _).mono ?_; rintro e w1 ⟨rfl, hb1⟩
              have k0 := box_at hb1 0 rfl; have k1 := box_at hb1 1 rfl; have k2 := box_at hb1 2 rfl; have k3 := box_at hb1 3 rfl; have k4 := box_at hb1 4 rfl; have k5 := box_at hb1 5 rfl; have k6 := box_at hb1 6 rfl; have k7 := box_at hb1 7 rfl; have k8 := box_at hb1 8 rfl; have k9 := box_at hb1 9 rfl; have k10 := box_at hb1 10 rfl
              go_wp2_with fail
              refine (HB'.out _).mono ?_; rintro e w2 ⟨rfl, hb2⟩
              have hc2 := hb1.trans (hb2.mono hb1.size)
              have q0 := box_at hc2 0 rfl; have q1 := box_at hc2 1 rfl; have q2 := box_at hc2 2 rfl; have q3 := box_at hc2 3 rfl; have q4 := box_at hc2 4 rfl; have q5 := box_at hc2 5 rfl; have q6 := box_at hc2 6 rfl; have q7 := box_at hc2 7 rfl; have q8 := box_at hc2 8 rfl; have q9 := box_at hc2 9 rfl; have q10 := box_at hc2 10 rfl
              clear hc2
              go_wp2_with fail
              go_returns
              exact ⟨ret_bool HE.out.symm, by (repeat (first | exact Below.refl _ _ | exact below_box _ _ | refine Below.stepBox ?_ _ | refine Below.stepDrew ?_ | refine Below.stepDrewN ?_ _ | refine Below.step (by assumption) ?_))⟩
    · have eb' : (!b.toList.isEmpty) = true := by simp [eb]
      rcases HSS with ns | ns <;> rcases HBB with nb | nb
      all_goals
        rw [ns] at HS; rw [nb] at HB; have HS' := Lib.hid HS; have HB' := Lib.hid HB; clear HS HB
        have HE : Hid (fullOk b s c r c' r' f' g' wd = false) := by show fullOk b s c r c' r' f' g' wd = false; unfold fullOk; simp [es, eb, nb]
        go_enter Tryd.func13, Tryd.ntmps13
        go_wp2_with fail
        refine (HS'.out _).mono ?_; rintro e w1 ⟨rfl, hb1⟩
        have k0 := box_at (v := .string b) hb1 0 rfl; have k1 := box_at (v := .string s) hb1 1 rfl; have k2 := box_at (v := .int .i64 c) hb1 2 rfl; have k3 := box_at (v := .int .i64 r) hb1 3 rfl; have k4 := box_at (v := .bool f) hb1 4 rfl; have k5 := box_at (v := .bool g) hb1 5 rfl; have k6 := box_at (v := .int .i64 c') hb1 6 rfl; have k7 := box_at (v := .int .i64 r') hb1 7 rfl; have k8 := box_at (v := .bool f') hb1 8 rfl; have k9 := box_at (v := .bool g') hb1 9 rfl; have k10 := box_at (v := .bool wd) hb1 10 rfl
        go_wp2_with fail
        refine (HB'.out _).mono ?_; rintro e w2 ⟨rfl, hb2⟩
        have hc2 := hb1.trans (hb2.mono hb1.size)
        have q0 := box_at (v := .string b) hc2 0 rfl; have q1 := box_at (v := .string s) hc2 1 rfl; have q2 := box_at (v := .int .i64 c) hc2 2 rfl; have q3 := box_at (v := .int .i64 r) hc2 3 rfl; have q4 := box_at (v := .bool f) hc2 4 rfl; have q5 := box_at (v := .bool g) hc2 5 rfl; have q6 := box_at (v := .int .i64 c') hc2 6 rfl; have q7 := box_at (v := .int .i64 r') hc2 7 rfl; have q8 := box_at (v := .bool f') hc2 8 rfl; have q9 := box_at (v := .bool g') hc2 9 rfl; have q10 := box_at (v := .bool wd) hc2 10 rfl
        clear hc2
        go_wp2_with fail
        go_returns
        exact ⟨ret_bool HE.out.symm, by (repeat (first | exact Below.refl _ _ | exact below_box _ _ | refine Below.stepBox ?_ _ | refine Below.stepDrew ?_ | refine Below.stepDrewN ?_ _ | refine Below.step (by assumption) ?_))⟩
  · have es' : (!s.toList.isEmpty) = true := by simp [es]
    have es'' : s.toList.isEmpty = false := by simp [es]
    rcases HSS with ns | ns
    · rcases HBB with nb | nb
      all_goals
        rw [ns] at HS; rw [nb] at HB; have HS' := Lib.hid HS; have HB' := Lib.hid HB; clear HS HB
        have HE : Hid (fullOk b s c r c' r' f' g' wd = false) := by show fullOk b s c r c' r' f' g' wd = false; unfold fullOk; simp [es, ns]
        go_enter Tryd.func13, Tryd.ntmps13
        go_wp2_with fail
        refine (HS'.out _).mono ?_; rintro e w1 ⟨rfl, hb1⟩
        have k0 := box_at (v := .string b) hb1 0 rfl; have k1 := box_at (v := .string s) hb1 1 rfl; have k2 := box_at (v := .int .i64 c) hb1 2 rfl; have k3 := box_at (v := .int .i64 r) hb1 3 rfl; have k4 := box_at (v := .bool f) hb1 4 rfl; have k5 := box_at (v := .bool g) hb1 5 rfl; have k6 := box_at (v := .int .i64 c') hb1 6 rfl; have k7 := box_at (v := .int .i64 r') hb1 7 rfl; have k8 := box_at (v := .bool f') hb1 8 rfl; have k9 := box_at (v := .bool g') hb1 9 rfl; have k10 := box_at (v := .bool wd) hb1 10 rfl
        go_wp2_with fail
        refine (HB'.out _).mono ?_; rintro e w2 ⟨rfl, hb2⟩
        have hc2 := hb1.trans (hb2.mono hb1.size)
        have q0 := box_at (v := .string b) hc2 0 rfl; have q1 := box_at (v := .string s) hc2 1 rfl; have q2 := box_at (v := .int .i64 c) hc2 2 rfl; have q3 := box_at (v := .int .i64 r) hc2 3 rfl; have q4 := box_at (v := .bool f) hc2 4 rfl; have q5 := box_at (v := .bool g) hc2 5 rfl; have q6 := box_at (v := .int .i64 c') hc2 6 rfl; have q7 := box_at (v := .int .i64 r') hc2 7 rfl; have q8 := box_at (v := .bool f') hc2 8 rfl; have q9 := box_at (v := .bool g') hc2 9 rfl; have q10 := box_at (v := .bool wd) hc2 10 rfl
        clear hc2
        go_wp2_with fail
        go_returns
        exact ⟨ret_bool HE.out.symm, by (repeat (first | exact Below.refl _ _ | exact below_box _ _ | refine Below.stepBox ?_ _ | refine Below.stepDrew ?_ | refine Below.stepDrewN ?_ _ | refine Below.step (by assumption) ?_))⟩
    · by_cases eb : b.toList = []
      · rcases HBB with nb | nb
        all_goals
          rw [ns] at HS; rw [nb] at HB; have HS' := Lib.hid HS; have HB' := Lib.hid HB; clear HS HB
          cases wd with
          | true =>
            have HE : Hid (fullOk b s c r c' r' f' g' true = areaOk c r c' r') := by show fullOk b s c r c' r' f' g' true = _; unfold fullOk; simp [es, eb, ns]
            have HA := Lib.hid (fun w => refArea_any c r c' r' f g f' g' w)
            go_enter Tryd.func13, Tryd.ntmps13
            go_wp2_with fail
            refine (HS'.out _).mono ?_; rintro e w1 ⟨rfl, hb1⟩
            have k0 := box_at (v := .string b) hb1 0 rfl; have k1 := box_at (v := .string s) hb1 1 rfl; have k2 := box_at (v := .int .i64 c) hb1 2 rfl; have k3 := box_at (v := .int .i64 r) hb1 3 rfl; have k4 := box_at (v := .bool f) hb1 4 rfl; have k5 := box_at (v := .bool g) hb1 5 rfl; have k6 := box_at (v := .int .i64 c') hb1 6 rfl; have k7 := box_at (v := .int .i64 r') hb1 7 rfl; have k8 := box_at (v := .bool f') hb1 8 rfl; have k9 := box_at (v := .bool g') hb1 9 rfl; have k10 := box_at (v := .bool true) hb1 10 rfl
            go_wp2_with fail
            refine (HB'.out _).mono ?_; rintro e w2 ⟨rfl, hb2⟩
            have hc2 := hb1.trans (hb2.mono hb1.size)
            have q0 := box_at (v := .string b) hc2 0 rfl; have q1 := box_at (v := .string s) hc2 1 rfl; have q2 := box_at (v := .int .i64 c) hc2 2 rfl; have q3 := box_at (v := .int .i64 r) hc2 3 rfl; have q4 := box_at (v := .bool f) hc2 4 rfl; have q5 := box_at (v := .bool g) hc2 5 rfl; have q6 := box_at (v := .int .i64 c') hc2 6 rfl; have q7 := box_at (v := .int .i64 r') hc2 7 rfl; have q8 := box_at (v := .bool f') hc2 8 rfl; have q9 := box_at (v := .bool g') hc2 9 rfl; have q10 := box_at (v := .bool true) hc2 10 rfl
            go_wp2_with fail
            refine (HA.out _).mono ?_; rintro e w3 ⟨rfl, hb3⟩
            clear hc2
            go_wp2
            go_returns
            exact ⟨ret_bool HE.out.symm, by (repeat (first | exact Below.refl _ _ | exact below_box _ _ | refine Below.stepBox ?_ _ | refine Below.stepDrew ?_ | refine Below.stepDrewN ?_ _ | refine Below.step (by assumption) ?_))⟩
          | false =>
            by_cases ho : c' = 0 ∧ r' = 0 ∧ f' = false ∧ g' = false
            · obtain ⟨rfl, rfl, rfl, rfl⟩ := ho
              have HE : Hid (fullOk b s c r 0 0 false false false = goodC c r) := by show fullOk b s c r 0 0 false false false = _; unfold fullOk; rw [areaOk_one]; simp [es, eb, ns]
              have HC := Lib.hid (fun w => ref_Cell c r w)
              go_enter Tryd.func13, Tryd.ntmps13
              go_wp2_with fail
              refine (HS'.out _).mono ?_; rintro e w1 ⟨rfl, hb1⟩
              have k0 := box_at (v := .string b) hb1 0 rfl; have k1 := box_at (v := .string s) hb1 1 rfl; have k2 := box_at (v := .int .i64 c) hb1 2 rfl; have k3 := box_at (v := .int .i64 r) hb1 3 rfl; have k4 := box_at (v := .bool f) hb1 4 rfl; have k5 := box_at (v := .bool g) hb1 5 rfl; have k6 := box_at (v := .int .i64 0) hb1 6 rfl; have k7 := box_at (v := .int .i64 0) hb1 7 rfl; have k8 := box_at (v := .bool false) hb1 8 rfl; have k9 := box_at (v := .bool false) hb1 9 rfl; have k10 := box_at (v := .bool false) hb1 10 rfl
              go_wp2_with fail
              refine (HB'.out _).mono ?_; rintro e w2 ⟨rfl, hb2⟩
              have hc2 := hb1.trans (hb2.mono hb1.size)
              have q0 := box_at (v := .string b) hc2 0 rfl; have q1 := box_at (v := .string s) hc2 1 rfl; have q2 := box_at (v := .int .i64 c) hc2 2 rfl; have q3 := box_at (v := .int .i64 r) hc2 3 rfl; have q4 := box_at (v := .bool f) hc2 4 rfl; have q5 := box_at (v := .bool g) hc2 5 rfl; have q6 := box_at (v := .int .i64 0) hc2 6 rfl; have q7 := box_at (v := .int .i64 0) hc2 7 rfl; have q8 := box_at (v := .bool false) hc2 8 rfl; have q9 := box_at (v := .bool false) hc2 9 rfl; have q10 := box_at (v := .bool false) hc2 10 rfl
              go_wp2_with fail
              refine (HC.out _).mono ?_; rintro e w3 ⟨rfl, rfl⟩
              clear hc2
              go_wp2
              go_returns
              exact ⟨ret_bool HE.out.symm, by (repeat (first | exact Below.refl _ _ | exact below_box _ _ | refine Below.stepBox ?_ _ | refine Below.stepDrew ?_ | refine Below.stepDrewN ?_ _ | refine Below.step (by assumption) ?_))⟩
            · have HE : Hid (fullOk b s c r c' r' f' g' false = false) := by
                show fullOk b s c r c' r' f' g' false = false
                unfold fullOk
                simp [es, eb, ns]
                intro _ p q u; by_cases hg : g' = true
                · exact hg
                · exact absurd ⟨p, q, u, by simpa using hg⟩ ho
              have hn : c' ≠ 0 ∨ (c' = 0 ∧ r' ≠ 0) ∨ (c' = 0 ∧ r' = 0 ∧ f' = true) ∨ (c' = 0 ∧ r' = 0 ∧ f' = false ∧ g' = true) := by
                by_cases p : c' = 0
                · by_cases q : r' = 0
                  · cases f' <;> cases g' <;> simp_all
                  · exact Or.inr (Or.inl ⟨p, q⟩)
                · exact Or.inl p
              clear ho
              rcases hn with hn | ⟨hn, hn2⟩ | ⟨hn, hn2, hn3⟩ | ⟨hn, hn2, hn3, hn4⟩
              all_goals
                go_enter Tryd.func13, Tryd.ntmps13
                go_wp2_with fail
                refine (HS'.out _).mono ?_; rintro e w1 ⟨rfl, hb1⟩
                have k0 := box_at hb1 0 rfl; have k1 := box_at hb1 1 rfl; have k2 := box_at hb1 2 rfl; have k3 := box_at hb1 3 rfl; have k4 := box_at hb1 4 rfl; have k5 := box_at hb1 5 rfl; have k6 := box_at hb1 6 rfl; have k7 := box_at hb1 7 rfl; have k8 := box_at hb1 8 rfl; have k9 := box_at hb1 9 rfl; have k10 := box_at hb1 10 rfl
                go_wp2_with fail
                refine (HB'.out _).mono ?_; rintro e w2 ⟨rfl, hb2⟩
                have hc2 := hb1.trans (hb2.mono hb1.size)
                have q0 := box_at hc2 0 rfl; have q1 := box_at hc2 1 rfl; have q2 := box_at hc2 2 rfl; have q3 := box_at hc2 3 rfl; have q4 := box_at hc2 4 rfl; have q5 := box_at hc2 5 rfl; have q6 := box_at hc2 6 rfl; have q7 := box_at hc2 7 rfl; have q8 := box_at hc2 8 rfl; have q9 := box_at hc2 9 rfl; have q10 := box_at hc2 10 rfl
                clear hc2
                go_wp2_with fail
                go_returns
                exact ⟨ret_bool HE.out.symm, by (repeat (first | exact Below.refl _ _ | exact below_box _ _ | refine Below.stepBox ?_ _ | refine Below.stepDrew ?_ | refine Below.stepDrewN ?_ _ | refine Below.step (by assumption) ?_))⟩
      · have eb' : (!b.toList.isEmpty) = true := by simp [eb]
        rcases HBB with nb | nb
        · rw [ns] at HS; rw [nb] at HB; have HS' := Lib.hid HS; have HB' := Lib.hid HB; clear HS HB
          have HE : Hid (fullOk b s c r c' r' f' g' wd = false) := by show fullOk b s c r c' r' f' g' wd = false; unfold fullOk; simp [es, eb, ns, nb]
          go_enter Tryd.func13, Tryd.ntmps13
          go_wp2_with fail
          refine (HS'.out _).mono ?_; rintro e w1 ⟨rfl, hb1⟩
          have k0 := box_at (v := .string b) hb1 0 rfl; have k1 := box_at (v := .string s) hb1 1 rfl; have k2 := box_at (v := .int .i64 c) hb1 2 rfl; have k3 := box_at (v := .int .i64 r) hb1 3 rfl; have k4 := box_at (v := .bool f) hb1 4 rfl; have k5 := box_at (v := .bool g) hb1 5 rfl; have k6 := box_at (v := .int .i64 c') hb1 6 rfl; have k7 := box_at (v := .int .i64 r') hb1 7 rfl; have k8 := box_at (v := .bool f') hb1 8 rfl; have k9 := box_at (v := .bool g') hb1 9 rfl; have k10 := box_at (v := .bool wd) hb1 10 rfl
          go_wp2_with fail
          refine (HB'.out _).mono ?_; rintro e w2 ⟨rfl, hb2⟩
          have hc2 := hb1.trans (hb2.mono hb1.size)
          have q0 := box_at (v := .string b) hc2 0 rfl; have q1 := box_at (v := .string s) hc2 1 rfl; have q2 := box_at (v := .int .i64 c) hc2 2 rfl; have q3 := box_at (v := .int .i64 r) hc2 3 rfl; have q4 := box_at (v := .bool f) hc2 4 rfl; have q5 := box_at (v := .bool g) hc2 5 rfl; have q6 := box_at (v := .int .i64 c') hc2 6 rfl; have q7 := box_at (v := .int .i64 r') hc2 7 rfl; have q8 := box_at (v := .bool f') hc2 8 rfl; have q9 := box_at (v := .bool g') hc2 9 rfl; have q10 := box_at (v := .bool wd) hc2 10 rfl
          clear hc2
          go_wp2_with fail
          go_returns
          exact ⟨ret_bool HE.out.symm, by (repeat (first | exact Below.refl _ _ | exact below_box _ _ | refine Below.stepBox ?_ _ | refine Below.stepDrew ?_ | refine Below.stepDrewN ?_ _ | refine Below.step (by assumption) ?_))⟩
        · rw [ns] at HS; rw [nb] at HB; have HS' := Lib.hid HS; have HB' := Lib.hid HB; clear HS HB
          cases wd with
          | true =>
            have HE : Hid (fullOk b s c r c' r' f' g' true = areaOk c r c' r') := by show fullOk b s c r c' r' f' g' true = _; unfold fullOk; simp [es, eb, ns, nb]
            have HA := Lib.hid (fun w => refArea_any c r c' r' f g f' g' w)
            go_enter Tryd.func13, Tryd.ntmps13
            go_wp2_with fail
            refine (HS'.out _).mono ?_; rintro e w1 ⟨rfl, hb1⟩
            have k0 := box_at (v := .string b) hb1 0 rfl; have k1 := box_at (v := .string s) hb1 1 rfl; have k2 := box_at (v := .int .i64 c) hb1 2 rfl; have k3 := box_at (v := .int .i64 r) hb1 3 rfl; have k4 := box_at (v := .bool f) hb1 4 rfl; have k5 := box_at (v := .bool g) hb1 5 rfl; have k6 := box_at (v := .int .i64 c') hb1 6 rfl; have k7 := box_at (v := .int .i64 r') hb1 7 rfl; have k8 := box_at (v := .bool f') hb1 8 rfl; have k9 := box_at (v := .bool g') hb1 9 rfl; have k10 := box_at (v := .bool true) hb1 10 rfl
            go_wp2_with fail
            refine (HB'.out _).mono ?_; rintro e w2 ⟨rfl, hb2⟩
            have hc2 := hb1.trans (hb2.mono hb1.size)
            have q0 := box_at (v := .string b) hc2 0 rfl; have q1 := box_at (v := .string s) hc2 1 rfl; have q2 := box_at (v := .int .i64 c) hc2 2 rfl; have q3 := box_at (v := .int .i64 r) hc2 3 rfl; have q4 := box_at (v := .bool f) hc2 4 rfl; have q5 := box_at (v := .bool g) hc2 5 rfl; have q6 := box_at (v := .int .i64 c') hc2 6 rfl; have q7 := box_at (v := .int .i64 r') hc2 7 rfl; have q8 := box_at (v := .bool f') hc2 8 rfl; have q9 := box_at (v := .bool g') hc2 9 rfl; have q10 := box_at (v := .bool true) hc2 10 rfl
            go_wp2_with fail
            refine (HA.out _).mono ?_; rintro e w3 ⟨rfl, hb3⟩
            clear hc2
            go_wp2
            go_returns
            exact ⟨ret_bool HE.out.symm, by (repeat (first | exact Below.refl _ _ | exact below_box _ _ | refine Below.stepBox ?_ _ | refine Below.stepDrew ?_ | refine Below.stepDrewN ?_ _ | refine Below.step (by assumption) ?_))⟩
          | false =>
            by_cases ho : c' = 0 ∧ r' = 0 ∧ f' = false ∧ g' = false
            · obtain ⟨rfl, rfl, rfl, rfl⟩ := ho
              have HE : Hid (fullOk b s c r 0 0 false false false = goodC c r) := by show fullOk b s c r 0 0 false false false = _; unfold fullOk; rw [areaOk_one]; simp [es, eb, ns, nb]
              have HC := Lib.hid (fun w => ref_Cell c r w)
              go_enter Tryd.func13, Tryd.ntmps13
              go_wp2_with fail
              refine (HS'.out _).mono ?_; rintro e w1 ⟨rfl, hb1⟩
              have k0 := box_at (v := .string b) hb1 0 rfl; have k1 := box_at (v := .string s) hb1 1 rfl; have k2 := box_at (v := .int .i64 c) hb1 2 rfl; have k3 := box_at (v := .int .i64 r) hb1 3 rfl; have k4 := box_at (v := .bool f) hb1 4 rfl; have k5 := box_at (v := .bool g) hb1 5 rfl; have k6 := box_at (v := .int .i64 0) hb1 6 rfl; have k7 := box_at (v := .int .i64 0) hb1 7 rfl; have k8 := box_at (v := .bool false) hb1 8 rfl; have k9 := box_at (v := .bool false) hb1 9 rfl; have k10 := box_at (v := .bool false) hb1 10 rfl
              go_wp2_with fail
              refine (HB'.out _).mono ?_; rintro e w2 ⟨rfl, hb2⟩
              have hc2 := hb1.trans (hb2.mono hb1.size)
              have q0 := box_at (v := .string b) hc2 0 rfl; have q1 := box_at (v := .string s) hc2 1 rfl; have q2 := box_at (v := .int .i64 c) hc2 2 rfl; have q3 := box_at (v := .int .i64 r) hc2 3 rfl; have q4 := box_at (v := .bool f) hc2 4 rfl; have q5 := box_at (v := .bool g) hc2 5 rfl; have q6 := box_at (v := .int .i64 0) hc2 6 rfl; have q7 := box_at (v := .int .i64 0) hc2 7 rfl; have q8 := box_at (v := .bool false) hc2 8 rfl; have q9 := box_at (v := .bool false) hc2 9 rfl; have q10 := box_at (v := .bool false) hc2 10 rfl
              go_wp2_with fail
              refine (HC.out _).mono ?_; rintro e w3 ⟨rfl, rfl⟩
              clear hc2
              go_wp2
              go_returns
              exact ⟨ret_bool HE.out.symm, by (repeat (first | exact Below.refl _ _ | exact below_box _ _ | refine Below.stepBox ?_ _ | refine Below.stepDrew ?_ | refine Below.stepDrewN ?_ _ | refine Below.step (by assumption) ?_))⟩
            · have HE : Hid (fullOk b s c r c' r' f' g' false = false) := by
                show fullOk b s c r c' r' f' g' false = false
                unfold fullOk
                simp [es, eb, ns, nb]
                intro _ p q u; by_cases hg : g' = true
                · exact hg
                · exact absurd ⟨p, q, u, by simpa using hg⟩ ho
              have hn : c' ≠ 0 ∨ (c' = 0 ∧ r' ≠ 0) ∨ (c' = 0 ∧ r' = 0 ∧ f' = true) ∨ (c' = 0 ∧ r' = 0 ∧ f' = false ∧ g' = true) := by
                by_cases p : c' = 0
                · by_cases q : r' = 0
                  · cases f' <;> cases g' <;> simp_all
                  · exact Or.inr (Or.inl ⟨p, q⟩)
                · exact Or.inl p
              clear ho
              rcases hn with hn | ⟨hn, hn2⟩ | ⟨hn, hn2, hn3⟩ | ⟨hn, hn2, hn3, hn4⟩
              all_goals
                go_enter Tryd.func13, Tryd.ntmps13
                go_wp2_with fail
                refine (HS'.out _).mono ?_; rintro e w1 ⟨rfl, hb1⟩
                have k0 := box_at hb1 0 rfl; have k1 := box_at hb1 1 rfl; have k2 := box_at hb1 2 rfl; have k3 := box_at hb1 3 rfl; have k4 := box_at hb1 4 rfl; have k5 := box_at hb1 5 rfl; have k6 := box_at hb1 6 rfl; have k7 := box_at hb1 7 rfl; have k8 := box_at hb1 8 rfl; have k9 := box_at hb1 9 rfl; have k10 := box_at hb1 10 rfl
                go_wp2_with fail
                refine (HB'.out _).mono ?_; rintro e w2 ⟨rfl, hb2⟩
                have hc2 := hb1.trans (hb2.mono hb1.size)
                have q0 := box_at hc2 0 rfl; have q1 := box_at hc2 1 rfl; have q2 := box_at hc2 2 rfl; have q3 := box_at hc2 3 rfl; have q4 := box_at hc2 4 rfl; have q5 := box_at hc2 5 rfl; have q6 := box_at hc2 6 rfl; have q7 := box_at hc2 7 rfl; have q8 := box_at hc2 8 rfl; have q9 := box_at hc2 9 rfl; have q10 := box_at hc2 10 rfl
                clear hc2
                go_wp2_with fail
                go_returns
                exact ⟨ret_bool HE.out.symm, by (repeat (first | exact Below.refl _ _ | exact below_box _ _ | refine Below.stepBox ?_ _ | refine Below.stepDrew ?_ | refine Below.stepDrewN ?_ _ | refine Below.step (by assumption) ?_))⟩

set_option maxHeartbeats 4000000 in
theorem refText_any (b s : ByteArray) (c r : Int) (f g : Bool) (c' r' : Int) (f' g' wd : Bool) (w : World) (h1 : s.size ≤ 100) (h2 : b.size ≤ 100) :
    Calls Tryd.prog 15 #[fullV b s c r f g c' r' f' g' wd] w (RetPost w (.string (fullB b s c r f g c' r' f' g' wd))) := by
  have HG := fun w => refGood_any b s c r f g c' r' f' g' wd w (by omega) (by omega)
  have HR := fun w => RefText_any c r f g w
  have HR2 := fun w => RefText_any c' r' f' g' w
  have p2 := refB_size c r f g
  have p3 := refB_size c' r' f' g'
  cases ho : fullOk b s c r c' r' f' g' wd with
  | false =>
    rw [ho] at HG
    have HE : Hid (fullB b s c r f g c' r' f' g' wd = emptyB) := by show fullB b s c r f g c' r' f' g' wd = _; unfold fullB; rw [ho]; simp
    have HG' := Lib.hid HG
    clear HG HR HR2 p2 p3 ho
    go_enter Tryd.func15, Tryd.ntmps15
    go_wp2_with (go_at_call 13; refine (HG'.out _).mono ?_; rintro e w1 ⟨rfl, hb1⟩)
    go_returns
    exact ⟨ret_str HE.out.symm, by (repeat (first | exact Below.refl _ _ | exact below_box _ _ | refine Below.stepBox ?_ _ | refine Below.stepDrew ?_ | refine Below.stepDrewN ?_ _ | refine Below.step (by assumption) ?_))⟩
  | true =>
    rw [ho] at HG
    have HG' := Lib.hid HG; have HR' := Lib.hid HR; have HR2' := Lib.hid HR2
    clear HG HR HR2
    obtain ⟨sr, hsr⟩ : ∃ sr, sr = refB c r f g := ⟨_, rfl⟩
    obtain ⟨st, hst⟩ : ∃ st, st = refB c' r' f' g' := ⟨_, rfl⟩
    rw [← hsr] at HR' p2; rw [← hst] at HR2' p3
    have n1 : ¬ 9223372036854775807 < s.size + 1 := by omega
    have n2 : ¬ 9223372036854775807 < s.size + 1 + sr.size := by omega
    have n3 : ¬ 9223372036854775807 < 1 + b.size := by omega
    have n4 : ¬ 9223372036854775807 < 1 + b.size + 1 := by omega
    have n5 : ¬ 9223372036854775807 < 1 + b.size + 1 + sr.size := by omega
    have n6 : ¬ 9223372036854775807 < 1 + b.size + 1 + (s.size + 1 + sr.size) := by omega
    have n7 : ¬ 9223372036854775807 < sr.size + 1 := by omega
    have n8 : ¬ 9223372036854775807 < sr.size + 1 + st.size := by omega
    have n9 : ¬ 9223372036854775807 < s.size + 1 + sr.size + 1 := by omega
    have n10 : ¬ 9223372036854775807 < s.size + 1 + sr.size + 1 + st.size := by omega
    have n11 : ¬ 9223372036854775807 < 1 + b.size + 1 + sr.size + 1 := by omega
    have n12 : ¬ 9223372036854775807 < 1 + b.size + 1 + sr.size + 1 + st.size := by omega
    have n13 : ¬ 9223372036854775807 < 1 + b.size + 1 + (s.size + 1 + sr.size) + 1 := by omega
    have n14 : ¬ 9223372036854775807 < 1 + b.size + 1 + (s.size + 1 + sr.size) + 1 + st.size := by omega
    have HE : Hid (fullB b s c r f g c' r' f' g' wd = (if wd then placeB b s ++ sr ++ (⟨#[58]⟩ ++ st) else placeB b s ++ sr)) := by show fullB b s c r f g c' r' f' g' wd = _; unfold fullB; rw [ho, hsr, hst]; simp
    clear ho hsr hst p2 p3
    by_cases es : s.toList = []
    · by_cases eb : b.toList = []
      · cases wd with
        | false =>
          have HP : Hid (placeB b s = emptyB ++ emptyB) := by show placeB b s = _; unfold placeB bookB sheetB; simp [es, eb]
          go_enter Tryd.func15, Tryd.ntmps15
          go_wp2_with fail
          refine (HG'.out _).mono ?_; rintro e w1 ⟨rfl, hb1⟩
          have k0 := box_at (v := .string b) hb1 0 rfl; have k1 := box_at (v := .string s) hb1 1 rfl; have k2 := box_at (v := .int .i64 c) hb1 2 rfl; have k3 := box_at (v := .int .i64 r) hb1 3 rfl; have k4 := box_at (v := .bool f) hb1 4 rfl; have k5 := box_at (v := .bool g) hb1 5 rfl; have k6 := box_at (v := .int .i64 c') hb1 6 rfl; have k7 := box_at (v := .int .i64 r') hb1 7 rfl; have k8 := box_at (v := .bool f') hb1 8 rfl; have k9 := box_at (v := .bool g') hb1 9 rfl; have k10 := box_at (v := .bool false) hb1 10 rfl
          go_wp2_with fail
          refine (HR'.out _).mono ?_; rintro e w2 ⟨rfl, hb2⟩
          have hc2 := hb1.trans (hb2.mono hb1.size)
          have q0 := box_at (v := .string b) hc2 0 rfl; have q1 := box_at (v := .string s) hc2 1 rfl; have q2 := box_at (v := .int .i64 c) hc2 2 rfl; have q3 := box_at (v := .int .i64 r) hc2 3 rfl; have q4 := box_at (v := .bool f) hc2 4 rfl; have q5 := box_at (v := .bool g) hc2 5 rfl; have q6 := box_at (v := .int .i64 c') hc2 6 rfl; have q7 := box_at (v := .int .i64 r') hc2 7 rfl; have q8 := box_at (v := .bool f') hc2 8 rfl; have q9 := box_at (v := .bool g') hc2 9 rfl; have q10 := box_at (v := .bool false) hc2 10 rfl
          clear hc2
          go_wp2
          go_returns
          exact ⟨ret_str (by rw [HE.out, HP.out]; apply ByteArray.ext; simp [emptyB]), by (repeat (first | exact Below.refl _ _ | exact below_box _ _ | refine Below.stepBox ?_ _ | refine Below.stepDrew ?_ | refine Below.stepDrewN ?_ _ | refine Below.step (by assumption) ?_))⟩
        | true =>
          have HP : Hid (placeB b s = emptyB ++ emptyB) := by show placeB b s = _; unfold placeB bookB sheetB; simp [es, eb]
          go_enter Tryd.func15, Tryd.ntmps15
          go_wp2_with fail
          refine (HG'.out _).mono ?_; rintro e w1 ⟨rfl, hb1⟩
          have k0 := box_at (v := .string b) hb1 0 rfl; have k1 := box_at (v := .string s) hb1 1 rfl; have k2 := box_at (v := .int .i64 c) hb1 2 rfl; have k3 := box_at (v := .int .i64 r) hb1 3 rfl; have k4 := box_at (v := .bool f) hb1 4 rfl; have k5 := box_at (v := .bool g) hb1 5 rfl; have k6 := box_at (v := .int .i64 c') hb1 6 rfl; have k7 := box_at (v := .int .i64 r') hb1 7 rfl; have k8 := box_at (v := .bool f') hb1 8 rfl; have k9 := box_at (v := .bool g') hb1 9 rfl; have k10 := box_at (v := .bool true) hb1 10 rfl
          go_wp2_with fail
          refine (HR'.out _).mono ?_; rintro e w2 ⟨rfl, hb2⟩
          have hc2 := hb1.trans (hb2.mono hb1.size)
          have q0 := box_at (v := .string b) hc2 0 rfl; have q1 := box_at (v := .string s) hc2 1 rfl; have q2 := box_at (v := .int .i64 c) hc2 2 rfl; have q3 := box_at (v := .int .i64 r) hc2 3 rfl; have q4 := box_at (v := .bool f) hc2 4 rfl; have q5 := box_at (v := .bool g) hc2 5 rfl; have q6 := box_at (v := .int .i64 c') hc2 6 rfl; have q7 := box_at (v := .int .i64 r') hc2 7 rfl; have q8 := box_at (v := .bool f') hc2 8 rfl; have q9 := box_at (v := .bool g') hc2 9 rfl; have q10 := box_at (v := .bool true) hc2 10 rfl
          go_wp2_with fail
          refine (HR2'.out _).mono ?_; rintro e w3 ⟨rfl, hb3⟩
          clear hc2
          go_wp2
          go_returns
          exact ⟨ret_str (by rw [HE.out, HP.out]; apply ByteArray.ext; simp [emptyB]), by (repeat (first | exact Below.refl _ _ | exact below_box _ _ | refine Below.stepBox ?_ _ | refine Below.stepDrew ?_ | refine Below.stepDrewN ?_ _ | refine Below.step (by assumption) ?_))⟩
      · have eb' : (!b.toList.isEmpty) = true := by simp [eb]
        cases wd with
        | false =>
          have HP : Hid (placeB b s = (⟨#[91]⟩ ++ b ++ ⟨#[93]⟩) ++ emptyB) := by show placeB b s = _; unfold placeB bookB sheetB; simp [es, eb]
          go_enter Tryd.func15, Tryd.ntmps15
          go_wp2_with fail
          refine (HG'.out _).mono ?_; rintro e w1 ⟨rfl, hb1⟩
          have k0 := box_at (v := .string b) hb1 0 rfl; have k1 := box_at (v := .string s) hb1 1 rfl; have k2 := box_at (v := .int .i64 c) hb1 2 rfl; have k3 := box_at (v := .int .i64 r) hb1 3 rfl; have k4 := box_at (v := .bool f) hb1 4 rfl; have k5 := box_at (v := .bool g) hb1 5 rfl; have k6 := box_at (v := .int .i64 c') hb1 6 rfl; have k7 := box_at (v := .int .i64 r') hb1 7 rfl; have k8 := box_at (v := .bool f') hb1 8 rfl; have k9 := box_at (v := .bool g') hb1 9 rfl; have k10 := box_at (v := .bool false) hb1 10 rfl
          go_wp2_with fail
          refine (HR'.out _).mono ?_; rintro e w2 ⟨rfl, hb2⟩
          have hc2 := hb1.trans (hb2.mono hb1.size)
          have q0 := box_at (v := .string b) hc2 0 rfl; have q1 := box_at (v := .string s) hc2 1 rfl; have q2 := box_at (v := .int .i64 c) hc2 2 rfl; have q3 := box_at (v := .int .i64 r) hc2 3 rfl; have q4 := box_at (v := .bool f) hc2 4 rfl; have q5 := box_at (v := .bool g) hc2 5 rfl; have q6 := box_at (v := .int .i64 c') hc2 6 rfl; have q7 := box_at (v := .int .i64 r') hc2 7 rfl; have q8 := box_at (v := .bool f') hc2 8 rfl; have q9 := box_at (v := .bool g') hc2 9 rfl; have q10 := box_at (v := .bool false) hc2 10 rfl
          clear hc2
          go_wp2
          go_returns
          exact ⟨ret_str (by rw [HE.out, HP.out]; apply ByteArray.ext; simp [emptyB]), by (repeat (first | exact Below.refl _ _ | exact below_box _ _ | refine Below.stepBox ?_ _ | refine Below.stepDrew ?_ | refine Below.stepDrewN ?_ _ | refine Below.step (by assumption) ?_))⟩
        | true =>
          have HP : Hid (placeB b s = (⟨#[91]⟩ ++ b ++ ⟨#[93]⟩) ++ emptyB) := by show placeB b s = _; unfold placeB bookB sheetB; simp [es, eb]
          go_enter Tryd.func15, Tryd.ntmps15
          go_wp2_with fail
          refine (HG'.out _).mono ?_; rintro e w1 ⟨rfl, hb1⟩
          have k0 := box_at (v := .string b) hb1 0 rfl; have k1 := box_at (v := .string s) hb1 1 rfl; have k2 := box_at (v := .int .i64 c) hb1 2 rfl; have k3 := box_at (v := .int .i64 r) hb1 3 rfl; have k4 := box_at (v := .bool f) hb1 4 rfl; have k5 := box_at (v := .bool g) hb1 5 rfl; have k6 := box_at (v := .int .i64 c') hb1 6 rfl; have k7 := box_at (v := .int .i64 r') hb1 7 rfl; have k8 := box_at (v := .bool f') hb1 8 rfl; have k9 := box_at (v := .bool g') hb1 9 rfl; have k10 := box_at (v := .bool true) hb1 10 rfl
          go_wp2_with fail
          refine (HR'.out _).mono ?_; rintro e w2 ⟨rfl, hb2⟩
          have hc2 := hb1.trans (hb2.mono hb1.size)
          have q0 := box_at (v := .string b) hc2 0 rfl; have q1 := box_at (v := .string s) hc2 1 rfl; have q2 := box_at (v := .int .i64 c) hc2 2 rfl; have q3 := box_at (v := .int .i64 r) hc2 3 rfl; have q4 := box_at (v := .bool f) hc2 4 rfl; have q5 := box_at (v := .bool g) hc2 5 rfl; have q6 := box_at (v := .int .i64 c') hc2 6 rfl; have q7 := box_at (v := .int .i64 r') hc2 7 rfl; have q8 := box_at (v := .bool f') hc2 8 rfl; have q9 := box_at (v := .bool g') hc2 9 rfl; have q10 := box_at (v := .bool true) hc2 10 rfl
          go_wp2_with fail
          refine (HR2'.out _).mono ?_; rintro e w3 ⟨rfl, hb3⟩
          clear hc2
          go_wp2
          go_returns
          exact ⟨ret_str (by rw [HE.out, HP.out]; apply ByteArray.ext; simp [emptyB]), by (repeat (first | exact Below.refl _ _ | exact below_box _ _ | refine Below.stepBox ?_ _ | refine Below.stepDrew ?_ | refine Below.stepDrewN ?_ _ | refine Below.step (by assumption) ?_))⟩
    · have es' : (!s.toList.isEmpty) = true := by simp [es]
      by_cases eb : b.toList = []
      · cases wd with
        | false =>
          have HP : Hid (placeB b s = emptyB ++ (s ++ ⟨#[33]⟩)) := by show placeB b s = _; unfold placeB bookB sheetB; simp [es, eb]
          go_enter Tryd.func15, Tryd.ntmps15
          go_wp2_with fail
          refine (HG'.out _).mono ?_; rintro e w1 ⟨rfl, hb1⟩
          have k0 := box_at (v := .string b) hb1 0 rfl; have k1 := box_at (v := .string s) hb1 1 rfl; have k2 := box_at (v := .int .i64 c) hb1 2 rfl; have k3 := box_at (v := .int .i64 r) hb1 3 rfl; have k4 := box_at (v := .bool f) hb1 4 rfl; have k5 := box_at (v := .bool g) hb1 5 rfl; have k6 := box_at (v := .int .i64 c') hb1 6 rfl; have k7 := box_at (v := .int .i64 r') hb1 7 rfl; have k8 := box_at (v := .bool f') hb1 8 rfl; have k9 := box_at (v := .bool g') hb1 9 rfl; have k10 := box_at (v := .bool false) hb1 10 rfl
          go_wp2_with fail
          refine (HR'.out _).mono ?_; rintro e w2 ⟨rfl, hb2⟩
          have hc2 := hb1.trans (hb2.mono hb1.size)
          have q0 := box_at (v := .string b) hc2 0 rfl; have q1 := box_at (v := .string s) hc2 1 rfl; have q2 := box_at (v := .int .i64 c) hc2 2 rfl; have q3 := box_at (v := .int .i64 r) hc2 3 rfl; have q4 := box_at (v := .bool f) hc2 4 rfl; have q5 := box_at (v := .bool g) hc2 5 rfl; have q6 := box_at (v := .int .i64 c') hc2 6 rfl; have q7 := box_at (v := .int .i64 r') hc2 7 rfl; have q8 := box_at (v := .bool f') hc2 8 rfl; have q9 := box_at (v := .bool g') hc2 9 rfl; have q10 := box_at (v := .bool false) hc2 10 rfl
          clear hc2
          go_wp2
          go_returns
          exact ⟨ret_str (by rw [HE.out, HP.out]; apply ByteArray.ext; simp [emptyB]), by (repeat (first | exact Below.refl _ _ | exact below_box _ _ | refine Below.stepBox ?_ _ | refine Below.stepDrew ?_ | refine Below.stepDrewN ?_ _ | refine Below.step (by assumption) ?_))⟩
        | true =>
          have HP : Hid (placeB b s = emptyB ++ (s ++ ⟨#[33]⟩)) := by show placeB b s = _; unfold placeB bookB sheetB; simp [es, eb]
          go_enter Tryd.func15, Tryd.ntmps15
          go_wp2_with fail
          refine (HG'.out _).mono ?_; rintro e w1 ⟨rfl, hb1⟩
          have k0 := box_at (v := .string b) hb1 0 rfl; have k1 := box_at (v := .string s) hb1 1 rfl; have k2 := box_at (v := .int .i64 c) hb1 2 rfl; have k3 := box_at (v := .int .i64 r) hb1 3 rfl; have k4 := box_at (v := .bool f) hb1 4 rfl; have k5 := box_at (v := .bool g) hb1 5 rfl; have k6 := box_at (v := .int .i64 c') hb1 6 rfl; have k7 := box_at (v := .int .i64 r') hb1 7 rfl; have k8 := box_at (v := .bool f') hb1 8 rfl; have k9 := box_at (v := .bool g') hb1 9 rfl; have k10 := box_at (v := .bool true) hb1 10 rfl
          go_wp2_with fail
          refine (HR'.out _).mono ?_; rintro e w2 ⟨rfl, hb2⟩
          have hc2 := hb1.trans (hb2.mono hb1.size)
          have q0 := box_at (v := .string b) hc2 0 rfl; have q1 := box_at (v := .string s) hc2 1 rfl; have q2 := box_at (v := .int .i64 c) hc2 2 rfl; have q3 := box_at (v := .int .i64 r) hc2 3 rfl; have q4 := box_at (v := .bool f) hc2 4 rfl; have q5 := box_at (v := .bool g) hc2 5 rfl; have q6 := box_at (v := .int .i64 c') hc2 6 rfl; have q7 := box_at (v := .int .i64 r') hc2 7 rfl; have q8 := box_at (v := .bool f') hc2 8 rfl; have q9 := box_at (v := .bool g') hc2 9 rfl; have q10 := box_at (v := .bool true) hc2 10 rfl
          go_wp2_with fail
          refine (HR2'.out _).mono ?_; rintro e w3 ⟨rfl, hb3⟩
          clear hc2
          go_wp2
          go_returns
          exact ⟨ret_str (by rw [HE.out, HP.out]; apply ByteArray.ext; simp [emptyB]), by (repeat (first | exact Below.refl _ _ | exact below_box _ _ | refine Below.stepBox ?_ _ | refine Below.stepDrew ?_ | refine Below.stepDrewN ?_ _ | refine Below.step (by assumption) ?_))⟩
      · have eb' : (!b.toList.isEmpty) = true := by simp [eb]
        cases wd with
        | false =>
          have HP : Hid (placeB b s = (⟨#[91]⟩ ++ b ++ ⟨#[93]⟩) ++ (s ++ ⟨#[33]⟩)) := by show placeB b s = _; unfold placeB bookB sheetB; simp [es, eb]
          go_enter Tryd.func15, Tryd.ntmps15
          go_wp2_with fail
          refine (HG'.out _).mono ?_; rintro e w1 ⟨rfl, hb1⟩
          have k0 := box_at (v := .string b) hb1 0 rfl; have k1 := box_at (v := .string s) hb1 1 rfl; have k2 := box_at (v := .int .i64 c) hb1 2 rfl; have k3 := box_at (v := .int .i64 r) hb1 3 rfl; have k4 := box_at (v := .bool f) hb1 4 rfl; have k5 := box_at (v := .bool g) hb1 5 rfl; have k6 := box_at (v := .int .i64 c') hb1 6 rfl; have k7 := box_at (v := .int .i64 r') hb1 7 rfl; have k8 := box_at (v := .bool f') hb1 8 rfl; have k9 := box_at (v := .bool g') hb1 9 rfl; have k10 := box_at (v := .bool false) hb1 10 rfl
          go_wp2_with fail
          refine (HR'.out _).mono ?_; rintro e w2 ⟨rfl, hb2⟩
          have hc2 := hb1.trans (hb2.mono hb1.size)
          have q0 := box_at (v := .string b) hc2 0 rfl; have q1 := box_at (v := .string s) hc2 1 rfl; have q2 := box_at (v := .int .i64 c) hc2 2 rfl; have q3 := box_at (v := .int .i64 r) hc2 3 rfl; have q4 := box_at (v := .bool f) hc2 4 rfl; have q5 := box_at (v := .bool g) hc2 5 rfl; have q6 := box_at (v := .int .i64 c') hc2 6 rfl; have q7 := box_at (v := .int .i64 r') hc2 7 rfl; have q8 := box_at (v := .bool f') hc2 8 rfl; have q9 := box_at (v := .bool g') hc2 9 rfl; have q10 := box_at (v := .bool false) hc2 10 rfl
          clear hc2
          go_wp2
          go_returns
          exact ⟨ret_str (by rw [HE.out, HP.out]; apply ByteArray.ext; simp [emptyB]), by (repeat (first | exact Below.refl _ _ | exact below_box _ _ | refine Below.stepBox ?_ _ | refine Below.stepDrew ?_ | refine Below.stepDrewN ?_ _ | refine Below.step (by assumption) ?_))⟩
        | true =>
          have HP : Hid (placeB b s = (⟨#[91]⟩ ++ b ++ ⟨#[93]⟩) ++ (s ++ ⟨#[33]⟩)) := by show placeB b s = _; unfold placeB bookB sheetB; simp [es, eb]
          go_enter Tryd.func15, Tryd.ntmps15
          go_wp2_with fail
          refine (HG'.out _).mono ?_; rintro e w1 ⟨rfl, hb1⟩
          have k0 := box_at (v := .string b) hb1 0 rfl; have k1 := box_at (v := .string s) hb1 1 rfl; have k2 := box_at (v := .int .i64 c) hb1 2 rfl; have k3 := box_at (v := .int .i64 r) hb1 3 rfl; have k4 := box_at (v := .bool f) hb1 4 rfl; have k5 := box_at (v := .bool g) hb1 5 rfl; have k6 := box_at (v := .int .i64 c') hb1 6 rfl; have k7 := box_at (v := .int .i64 r') hb1 7 rfl; have k8 := box_at (v := .bool f') hb1 8 rfl; have k9 := box_at (v := .bool g') hb1 9 rfl; have k10 := box_at (v := .bool true) hb1 10 rfl
          go_wp2_with fail
          refine (HR'.out _).mono ?_; rintro e w2 ⟨rfl, hb2⟩
          have hc2 := hb1.trans (hb2.mono hb1.size)
          have q0 := box_at (v := .string b) hc2 0 rfl; have q1 := box_at (v := .string s) hc2 1 rfl; have q2 := box_at (v := .int .i64 c) hc2 2 rfl; have q3 := box_at (v := .int .i64 r) hc2 3 rfl; have q4 := box_at (v := .bool f) hc2 4 rfl; have q5 := box_at (v := .bool g) hc2 5 rfl; have q6 := box_at (v := .int .i64 c') hc2 6 rfl; have q7 := box_at (v := .int .i64 r') hc2 7 rfl; have q8 := box_at (v := .bool f') hc2 8 rfl; have q9 := box_at (v := .bool g') hc2 9 rfl; have q10 := box_at (v := .bool true) hc2 10 rfl
          go_wp2_with fail
          refine (HR2'.out _).mono ?_; rintro e w3 ⟨rfl, hb3⟩
          clear hc2
          go_wp2
          go_returns
          exact ⟨ret_str (by rw [HE.out, HP.out]; apply ByteArray.ext; simp [emptyB]), by (repeat (first | exact Below.refl _ _ | exact below_box _ _ | refine Below.stepBox ?_ _ | refine Below.stepDrew ?_ | refine Below.stepDrewN ?_ _ | refine Below.step (by assumption) ?_))⟩
end Go.Proofs.YtpljbpndooilgaaDoor

